/- Overwriting the entries that ReadContainer returns, and looking again. -/
import Derived.Test.YtpjjadmjdafkeaaDoorRg
namespace Go.Proofs.YtpjjadmjdafkeaaDoor
open Go.RowKit
set_option maxHeartbeats 1000000
/-- The number that stands in entry i's first field. -/
def kA (l : Nat → Nat) : Nat → Nat
  | 0 => 1
  | i + 1 => kA l i + 2 + l i
theorem kA_le {l : Nat → Nat} {M : Nat} : ∀ k, (∀ i, i < k → l i ≤ M) → kA l k ≤ 1 + k * (2 + M)
  | 0, _ => by simp [kA]
  | k + 1, h => by
    have h1 := kA_le k (fun i hi => h i (by omega))
    have h2 := h k (by omega)
    simp only [kA, Nat.succ_mul]
    omega
/-- What is in entry i's fields. -/
def kT (l : Nat → Nat) (i : Nat) : Value := .int .i64 ((kA l i : Nat) : Int)
def kK (l : Nat → Nat) (i : Nat) : Value := .bool ((((kA l i : Nat) : Int) + 1) % 3 == 0)
def kD (l : Nat → Nat) (i : Nat) : List Value := (marksB (((kA l i : Nat) : Int) + 1 + 1) (l i)).map (Value.int .u8)
/-- Entries of which the first k are overwritten. -/
def MkE (w : World) (lo : Nat) (cs : List Value) (A : Nat → Option Addr) (l c : Nat → Nat) (k i : Nat) : Prop :=
  cs[i * 3 + 2]? = some (.slice (A i) (l i) (c i)) ∧ ∃ xs, w.ownsRow lo 5 1 (.slice (A i) (l i) (c i)) (l i) xs ∧ (i < k → cs[i * 3]? = some (kT l i) ∧ cs[i * 3 + 1]? = some (kK l i) ∧ xs = kD l i)
def MkR (w : World) (lo : Nat) (v : Value) (n : Nat) (A : Nat → Option Addr) (l c : Nat → Nat) (k : Nat) : Prop :=
  ∃ cs, w.ownsRow lo 40 3 v n cs ∧ ∀ i, i < n → MkE w lo cs A l c k i
theorem MkR.ext {w w' : World} {lo n k : Nat} {v : Value} {A : Nat → Option Addr} {l c : Nat → Nat} (h : MkR w lo v n A l c k) (e : Ext w w') : MkR w' lo v n A l c k := by
  obtain ⟨cs, h1, h2⟩ := h
  refine ⟨cs, owns_ext h1 e, fun i hi => ?_⟩
  obtain ⟨h3, xs, h4, h5⟩ := h2 i hi
  exact ⟨h3, xs, owns_ext h4 e, h5⟩
/-- No two entries share a block. -/
def Dis (A : Nat → Option Addr) (l c : Nat → Nat) (n : Nat) : Prop := ∀ i j, i < n → j < n → i ≠ j → (Value.slice (A i) (l i) (c i)).ownBlock = none ∨ (Value.slice (A i) (l i) (c i)).ownBlock ≠ (Value.slice (A j) (l j) (c j)).ownBlock
/-- One entry is overwritten. -/
theorem MkE.step {w w1 w4 : World} {lo g n cv k : Nat} {A : Nat → Option Addr} {l c : Nat → Nat} {cs : List Value} (D : Dis A l c n) (hk : k < n)
    (h2 : ∀ i, i < n → MkE w lo cs A l c k i) (h1 : w.ownsRow lo 40 3 (.slice (some ⟨g, 0, none⟩) n cv) n cs) (gS : w.grownBy w1 (some g))
    (o1 : w1.ownsRow lo 40 3 (.slice (some ⟨g, 0, none⟩) n cv) n ((cs.set (k * 3) (kT l k)).set (k * 3 + 1) (kK l k)))
    (own : w4.ownsRow lo 5 1 (.slice (A k) (l k) (c k)) (l k) (kD l k)) (g4 : w1.grownBy w4 (Value.slice (A k) (l k) (c k)).ownBlock) :
    MkR w4 lo (.slice (some ⟨g, 0, none⟩) n cv) n A l c (k + 1) := by
  have hcl : cs.length = n * 3 := h1.1
  refine ⟨_, o1.kept g4 ?_, fun i hi => ?_⟩
  · obtain ⟨-, xs, h4, -⟩ := h2 k hk
    have h5 := h4.kept gS (owns_ne h4 h1 (by decide))
    rcases owns_ne o1 h5 (by decide) with h | h
    · exact .inl h
    · exact .inr h
  · by_cases hik : i = k
    · subst hik
      obtain ⟨h3, -⟩ := h2 i hi
      refine ⟨by rw [List.getElem?_set_ne (by omega), List.getElem?_set_ne (by omega)]; exact h3, _, own, fun _ => ⟨?_, ?_, rfl⟩⟩
      · rw [List.getElem?_set_ne (by omega), List.getElem?_set_self (by omega)]
      · rw [List.getElem?_set_self (by rw [List.length_set]; omega)]
    · obtain ⟨h3, xs, h4, h5⟩ := h2 i hi
      refine ⟨by rw [List.getElem?_set_ne (by omega), List.getElem?_set_ne (by omega)]; exact h3, xs, (h4.kept gS (owns_ne h4 h1 (by decide))).kept g4 (D i k hi hk hik), fun hlt => ?_⟩
      obtain ⟨h6, h7, h8⟩ := h5 (by omega)
      exact ⟨by rw [List.getElem?_set_ne (by omega), List.getElem?_set_ne (by omega)]; exact h6, by rw [List.getElem?_set_ne (by omega), List.getElem?_set_ne (by omega)]; exact h7, h8⟩
def slA : Value → Option Addr | .slice a _ _ => a | _ => none
def slN : Value → Nat | .slice _ n _ => n | _ => 0
def slC : Value → Nat | .slice _ _ c => c | _ => 0
theorem SEd.toMk {w : World} {lo : Nat} {v : Value} {L : List Smp} (h : SEd w lo v L) : ∃ A l c, Dis A l c L.length ∧ (∀ i, i < L.length → l i = (sget L i).2.2.length) ∧ MkR w lo v L.length A l c 0 := by
  obtain ⟨cs, h1, h2, h3⟩ := h
  have hv : ∀ i, i < L.length → ∃ a' c', cs.getD (i * 3 + 2) undef = .slice a' (sget L i).2.2.length c' ∧ cs[i * 3 + 2]? = some (.slice a' (sget L i).2.2.length c') ∧ w.ownsRow lo 5 1 (.slice a' (sget L i).2.2.length c') (sget L i).2.2.length ((sget L i).2.2.map (Value.int .u8)) := fun i hi => by
    obtain ⟨a', c', -, -, h5, h6⟩ := h2 i hi
    exact ⟨a', c', by rw [List.getD_eq_getElem?_getD, h5]; rfl, h5, h6⟩
  have he : ∀ i, i < L.length → Value.slice (slA (cs.getD (i * 3 + 2) undef)) (slN (cs.getD (i * 3 + 2) undef)) (slC (cs.getD (i * 3 + 2) undef)) = cs.getD (i * 3 + 2) undef := fun i hi => by
    obtain ⟨a', c', h4, -⟩ := hv i hi
    rw [h4]; rfl
  refine ⟨fun i => slA (cs.getD (i * 3 + 2) undef), fun i => slN (cs.getD (i * 3 + 2) undef), fun i => slC (cs.getD (i * 3 + 2) undef), fun i j hi hj hij => ?_, fun i hi => ?_, cs, h1, fun i hi => ?_⟩
  · show (Value.slice _ _ _).ownBlock = none ∨ (Value.slice _ _ _).ownBlock ≠ (Value.slice _ _ _).ownBlock
    rw [he i hi, he j hj]
    by_cases hlt : i < j
    · exact h3 i j hlt hj
    · rcases h3 j i (by omega) hi with h | h
      · cases hq : (cs.getD (i * 3 + 2) undef).ownBlock with
        | none => exact .inl rfl
        | some p => right; rw [h]; simp
      · exact .inr (Ne.symm h)
  · obtain ⟨a', c', h4, -⟩ := hv i hi
    show slN _ = _
    rw [h4]; rfl
  · obtain ⟨a', c', h4, h5, h6⟩ := hv i hi
    refine ⟨?_, (sget L i).2.2.map (Value.int .u8), ?_, fun h => by omega⟩
    · show cs[i * 3 + 2]? = some (Value.slice _ _ _)
      rw [he i hi, h4]; exact h5
    · show w.ownsRow lo 5 1 (Value.slice _ _ _) (slN _) _
      rw [he i hi, h4]; exact h6
set_option maxRecDepth 100000 in
theorem markSampleS_ex (v : Value) (lo n : Nat) (A : Nat → Option Addr) (l c : Nat → Nat) (w : World) (hn : n ≤ 255) (hl : ∀ i, i < n → l i ≤ 65535) (D : Dis A l c n) (r : MkR w lo v n A l c 0) :
    Calls Tryd.prog 18 #[v, .int .i64 1] w fun e w' => e = .returned (.int .i64 ((kA l n : Nat) : Int)) ∧ MkR w' lo v n A l c n ∧ Tch w w' lo w.heap.size := by
  obtain ⟨av, cv, rfl⟩ : ∃ a c, v = .slice a n c := by obtain ⟨cs, h1, -⟩ := r; exact owns_form h1
  have HD := Lib.hid D
  have HLl := Lib.hid hl
  have HA0 := Lib.hid (show (∀ q, (Value.slice av n cv).ownBlock = some q → lo ≤ q ∧ q < w.heap.size) ∧ ∀ i, i < n → ∀ q, (Value.slice (A i) (l i) (c i)).ownBlock = some q → lo ≤ q ∧ q < w.heap.size from by
    obtain ⟨cs, h1, h2⟩ := r
    refine ⟨h1.lt, fun i hi => ?_⟩
    obtain ⟨-, xs, h3, -⟩ := h2 i hi
    exact h3.lt)
  clear D hl
  go_enter Tryd.func18, Tryd.ntmps18
  go_wp2_with fail
  go_loopw [1, 5] (fun q i wr => ∃ (k : Nat), k ≤ n ∧ i = .int .i64 k ∧ q = .int .i64 ((kA l k : Nat) : Int) ∧ Tch w wr lo w.heap.size ∧ MkR wr lo (.slice av n cv) n A l c k) (fun _ i _ => n - (intOf i).toNat)
  case atStart => exact ⟨0, by omega, rfl, rfl, Tch.refl _ _ _, r⟩
  case round =>
    obtain ⟨k, hk, rfl, rfl, T2, R2⟩ := hrel
    clear r
    have hka := kA_le (M := 65535) k (fun i hi => HLl.out i (by omega))
    have hkb : kA l k ≤ 20000000 := by omega
    by_cases hlt : k < n
    · obtain ⟨cs, ownR, hE⟩ := R2
      obtain ⟨g, hv⟩ : ∃ g, av = some ⟨g, 0, none⟩ := by
        rcases id ownR.2 with ⟨hv, h0'⟩ | ⟨g, cap, cur, hv, -⟩
        · omega
        · simp only [Value.slice.injEq] at hv; exact ⟨g, hv.1⟩
      subst hv
      obtain ⟨hs, xs, own2, -⟩ := hE k hlt
      have hlk := HLl.out k hlt
      have d2 : wr.cell? ⟨g, k * 3 + 2, none⟩ = some (.slice (A k) (l k) (c k)) := by rw [ownR.cellAt _ (by omega)]; exact hs
      obtain ⟨u0, d0, -⟩ := owns_at ownR (j := k * 3) (by omega)
      obtain ⟨u1, d1, -⟩ := owns_at ownR (j := k * 3 + 1) (by omega)
      have f0 := ownR.frozenAt (k * 3)
      have f1 := ownR.frozenAt (k * 3 + 1)
      obtain ⟨o3, g3⟩ := ownR.stored (k * 3) (kT l k)
      obtain ⟨o4, g4⟩ := o3.stored (k * 3 + 1) (kK l k)
      have gS := grownBy_trans g3 g4
      have own4 := own2.kept gS (owns_ne own2 ownR (by decide))
      have HE := Lib.hid hE
      have O4 := Lib.hid o4
      have GS := Lib.hid gS
      have O2 := Lib.hid own4
      have OR := Lib.hid ownR
      unfold kT kK at O4 O2 GS
      clear hE hs own2 own4 o3 o4 g3 g4 gS ownR
      go_wp2_with fail
      refine (markByteS_any _ (l k) _ _ lo _ (by omega) (by omega) (by omega) O2.out).mono ?_
      rintro e w4 ⟨rfl, own5, g5⟩
      have R4 := MkE.step HD.out hlt HE.out OR.out GS.out O4.out own5 g5
      have T4 : Tch w w4 lo w.heap.size := T2.trans ((Tch.of_grown GS.out (fun q hq => by cases hq; exact HA0.out.1 g rfl)).trans (Tch.of_grown g5 (fun q hq => HA0.out.2 k hlt q hq)))
      clear own5 g5 d0 d1 d2 f0 f1 T2
      go_wp2
      go_roundw
      case rel => exact ⟨k + 1, by omega, by go_num, by simp only [kA]; first | rfl | go_num, T4, R4⟩
      case measure => simp [intOf]; omega
    · obtain rfl : k = n := by omega
      go_wp2
      go_ret
      exact ⟨rfl, R2, T2⟩
set_option maxRecDepth 100000 in
theorem heldSampleS_ex (v : Value) (lo n : Nat) (A : Nat → Option Addr) (l c : Nat → Nat) (w : World) (hn : n ≤ 255) (hl : ∀ i, i < n → l i ≤ 65535) (r : MkR w lo v n A l c n) :
    Calls Tryd.prog 19 #[v, .int .i64 1] w fun e w' => e = .returned (.int .i64 ((kA l n : Nat) : Int)) ∧ Ext w w' := by
  obtain ⟨av, cv, rfl⟩ : ∃ a c, v = .slice a n c := by obtain ⟨cs, h1, -⟩ := r; exact owns_form h1
  have HLl := Lib.hid hl
  clear hl
  obtain ⟨cs, ownR, hE⟩ := r
  have HE := Lib.hid hE
  clear hE
  go_enter Tryd.func19, Tryd.ntmps19
  go_wp2_with fail
  go_loopw [1, 5] (fun q i wr => ∃ (k : Nat), k ≤ n ∧ i = .int .i64 k ∧ q = .int .i64 ((kA l k : Nat) : Int) ∧ Ext w wr) (fun _ i _ => n - (intOf i).toNat)
  case atStart => exact ⟨0, by omega, rfl, rfl, Below.refl _ _⟩
  case round =>
    obtain ⟨k, hk, rfl, rfl, E2⟩ := hrel
    have hka := kA_le (M := 65535) k (fun i hi => HLl.out i (by omega))
    have hkb : kA l k ≤ 20000000 := by omega
    by_cases hlt : k < n
    · obtain ⟨g, hv⟩ : ∃ g, av = some ⟨g, 0, none⟩ := by
        rcases id ownR.2 with ⟨hv, h0'⟩ | ⟨g, cap, cur, hv, -⟩
        · omega
        · simp only [Value.slice.injEq] at hv; exact ⟨g, hv.1⟩
      subst hv
      obtain ⟨hs, xs, own2, hm⟩ := HE.out k hlt
      obtain ⟨m0, m1, rfl⟩ := hm hlt
      have hlk := HLl.out k hlt
      have d2 : wr.cell? ⟨g, k * 3 + 2, none⟩ = some (.slice (A k) (l k) (c k)) := cell_ext E2 (by rw [ownR.cellAt _ (by omega)]; exact hs)
      have d0 : wr.cell? ⟨g, k * 3, none⟩ = some (kT l k) := cell_ext E2 (by rw [ownR.cellAt _ (by omega)]; exact m0)
      have d1 : wr.cell? ⟨g, k * 3 + 1, none⟩ = some (kK l k) := cell_ext E2 (by rw [ownR.cellAt _ (by omega)]; exact m1)
      have hx : (((((kA l k : Nat) : Int) + 1) % 3 == 0) != ((((kA l k : Nat) : Int) + 1) % 3 == 0)) = false := by simp
      unfold kT at d0
      unfold kK at d1
      have s2 := (Sl.of_owns own2).ext E2
      unfold kD at s2
      have S2 := Lib.hid s2
      clear hs own2 hm m0 m1 s2
      go_wp2_with fail
      refine (heldByteS_any _ (c k) (l k) _ _ (by omega) (by omega) (by omega) S2.out).mono ?_
      rintro e w4 ⟨rfl, q4, rfl⟩
      have E4 : Ext w (wr.drewN q4) := below_drewN E2 q4
      clear d0 d1 d2
      go_wp2
      go_roundw
      case rel => exact ⟨k + 1, by omega, by go_num, by simp only [kA]; first | rfl | go_num, E4⟩
      case measure => simp [intOf]; omega
    · obtain rfl : k = n := by omega
      go_wp2
      go_ret
      exact ⟨rfl, E2⟩
end Go.Proofs.YtpjjadmjdafkeaaDoor
