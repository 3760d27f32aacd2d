/- The exact laws' helpers over byte strings and lists of them: size, copy, compare, mark, hold. -/
import Derived.Test.YtmokncpppmchfaaDoorP0
import Derived.Test.YtmokncpppmchfaaDoorOwn
import Derived.Test.YtmokncpppmchfaaDoorRegion
namespace Go.Proofs.YtmokncpppmchfaaDoor
open Go.RowKit
set_option maxHeartbeats 400000

/-- Between w and w' only blocks of lo..hi-1 have changed. -/
structure Tch (w w' : World) (lo hi : Nat) : Prop where
  os : w'.os = w.os
  tape : w'.tape = w.tape
  output : w'.output = w.output
  size : w.heap.size ≤ w'.heap.size
  block : ∀ k, k < w.heap.size → (k < lo ∨ hi ≤ k) → w'.heap[k]? = w.heap[k]?
theorem Tch.refl (w : World) (lo hi : Nat) : Tch w w lo hi := ⟨rfl, rfl, rfl, Nat.le_refl _, fun _ _ _ => rfl⟩
theorem Tch.trans {a b c : World} {lo hi : Nat} (h : Tch a b lo hi) (k : Tch b c lo hi) : Tch a c lo hi :=
  ⟨k.os.trans h.os, k.tape.trans h.tape, k.output.trans h.output, Nat.le_trans h.size k.size, fun i hi ho => (k.block i (Nat.lt_of_lt_of_le hi h.size) ho).trans (h.block i hi ho)⟩
theorem Tch.of_grown {w w' : World} {lo hi : Nat} {row : Option Nat} (g : w.grownBy w' row) (h : ∀ k, row = some k → lo ≤ k ∧ k < hi) : Tch w w' lo hi :=
  ⟨g.os, g.tape, g.output, g.size, fun k hk ho => g.block k hk (fun e => by have := h k e.symm; omega)⟩
theorem Tch.ext {w w1 w2 : World} {lo hi : Nat} (h : Tch w w1 lo hi) (e : Ext w1 w2) : Tch w w2 lo hi :=
  ⟨e.os.trans h.os, e.tape.trans h.tape, e.output.trans h.output, Nat.le_trans h.size e.size, fun k hk ho => (e.block k (Nat.lt_of_lt_of_le hk h.size)).trans (h.block k hk ho)⟩
theorem Ext.tch {a w w' : World} {lo hi : Nat} (e : Ext a w) (h : Tch w w' lo hi) (hl : a.heap.size ≤ lo) : Ext a w' :=
  ⟨h.os.trans e.os, h.tape.trans e.tape, h.output.trans e.output, Nat.le_trans e.size h.size, fun k hk => (h.block k (Nat.lt_of_lt_of_le hk e.size) (by omega)).trans (e.block k hk)⟩
theorem Tch.cell {w w' : World} {lo hi : Nat} (t : Tch w w' lo hi) {p : Addr} {v : Value} (h : w.cell? p = some v) (ho : p.block < lo ∨ hi ≤ p.block) : w'.cell? p = some v := by
  have hb := t.block p.block (World.block_lt_of_cell? w _ h) ho
  obtain ⟨b, o, s⟩ := p
  simp only [World.cell?] at h ⊢
  simp only at hb
  rw [hb]; exact h
theorem Sl.tch {w w' : World} {lo hi n : Nat} {a : Option Addr} {xs : List Value} (h : Sl w a n xs) (t : Tch w w' lo hi) (ho : ∀ x, a = some x → x.block < lo ∨ hi ≤ x.block) : Sl w' a n xs := by
  refine ⟨h.1, fun i hi => ?_⟩
  obtain ⟨b, off, ha, hc⟩ := h.2 i hi
  have h2 := ho _ ha
  exact ⟨b, off, ha, t.cell hc h2⟩
theorem owns_tch {w w' : World} {lo hi base e n : Nat} {v : Value} {xs : List Value} (h : w.ownsRow base e 1 v n xs) (t : Tch w w' lo hi) (ho : ∀ k, v.ownBlock = some k → k < lo ∨ hi ≤ k) : w'.ownsRow base e 1 v n xs := by
  obtain ⟨h1, h2⟩ := h
  refine ⟨h1, ?_⟩
  rcases h2 with h2 | ⟨g, cap, cur, rfl, hg, r1, r2⟩
  · exact .inl h2
  · exact .inr ⟨g, cap, cur, rfl, hg, by rw [t.block g (lt_of_block r1) (ho g rfl)]; exact r1, r2⟩

/-- The bytes from k on. -/
def marksB (k : Int) (n : Nat) : List Int := tab n fun i => (k + (i : Int)) % 256
theorem markByteS_any (v : Value) (n : Nat) (xs : List Value) (k : Int) (base : Nat) (w : World) (hn : n < 2^47) (hk0 : 0 ≤ k) (hk : k < 2^60)
    (own : w.ownsRow base 5 1 v n xs) :
    Calls Tryd.prog 33 #[v, .int .i64 k] w fun e w' => e = .returned (.int .i64 (k + n)) ∧ w'.ownsRow base 5 1 v n ((marksB k n).map (Value.int .u8)) ∧ w.grownBy w' v.ownBlock := by
  have hxl : xs.length = n := by have := own.1; omega
  rcases id own.2 with ⟨rfl, rfl⟩ | ⟨g, cap, cur, rfl, -⟩
  · go_enter Tryd.func33, Tryd.ntmps33
    go_wp2
    go_loopw [1, 5] (fun q i wr => i = .int .i64 0 ∧ q = .int .i64 k ∧ w = wr) (fun _ _ _ => 0)
    case atStart => exact ⟨rfl, rfl, rfl⟩
    case round =>
      obtain ⟨rfl, rfl, rfl⟩ := hrel
      go_wp2
      go_ret
      exact ⟨by simp, World.ownsRow_nil _ _ _ _, World.grownBy.refl _ _⟩
  · have H0 := mix_zero ((marksB k n).map (Value.int .u8)) xs
    rw [← H0] at own
    clear H0
    go_enter Tryd.func33, Tryd.ntmps33
    go_wp2
    go_loopw [1, 5] (fun q i wr => ∃ j : Nat, j ≤ n ∧ i = .int .i64 j ∧ q = .int .i64 (k + j) ∧ w.grownBy wr (some g) ∧ wr.ownsRow base 5 1 (.slice (some ⟨g, 0, none⟩) n cap) n (mix ((marksB k n).map (Value.int .u8)) xs j)) (fun _ i _ => n - (intOf i).toNat)
    case atStart => exact ⟨0, by omega, rfl, by simp, World.grownBy.refl _ _, own⟩
    case round =>
      obtain ⟨j, hj, rfl, rfl, E2, hown2⟩ := hrel
      clear own
      by_cases hlt : j < n
      · obtain ⟨u, g2, -⟩ := owns_get hown2 hlt
        have g3 := hown2.frozenAt j
        have Hx := Lib.hid hxl
        have hrel2 : (wr.setCell ⟨g, j, none⟩ (.int .u8 (IntKind.u8.wrap (k + j)))).ownsRow base 5 1 (.slice (some ⟨g, 0, none⟩) n cap) n (mix ((marksB k n).map (Value.int .u8)) xs (j + 1)) ∧ wr.grownBy (wr.setCell ⟨g, j, none⟩ (.int .u8 (IntKind.u8.wrap (k + j)))) (some g) := by
          obtain ⟨o2, gr⟩ := hown2.stored j (.int .u8 (IntKind.u8.wrap (k + j)))
          rw [mix_set _ _ j (by simp [marksB, tab_len, hxl]) (by simp [marksB, tab_len, hlt]) _ (by rw [getD_map_int _ _ _ (by rw [marksB, tab_len]; exact hlt), marksB, nth_tab _ _ _ hlt, wrap_u8])] at o2
          exact ⟨o2, gr⟩
        have Hrel := Lib.hid hrel2
        have GG := Lib.hid (grownBy_trans E2 hrel2.2)
        clear hxl hrel2 hown2 E2
        go_wp2
        go_roundw
        case rel => exact ⟨j + 1, by omega, rfl, by go_num, by first | exact GG.out | simpa [wrap_u8] using GG.out, by first | exact Hrel.out.1 | simpa [wrap_u8] using Hrel.out.1⟩
        case measure => simp [intOf]; omega
      · obtain rfl : j = n := by omega
        rw [mix_all _ _ j (by simp [marksB, tab_len]) hxl] at hown2
        clear hxl
        go_wp2
        go_ret
        exact ⟨rfl, hown2, E2⟩
theorem heldByteS_any (a : Option Addr) (c n : Nat) (k : Int) (w : World) (hn : n < 2^47) (hk0 : 0 ≤ k) (hk : k < 2^60)
    (r : Sl w a n ((marksB k n).map (Value.int .u8))) :
    Calls Tryd.prog 34 #[.slice a n c, .int .i64 k] w fun e w' => e = .returned (.int .i64 (k + n)) ∧ ∃ m, w' = w.drewN m := by
  go_enter Tryd.func34, Tryd.ntmps34
  go_wp2
  go_loopw [1, 5] (fun q i wr => ∃ j : Nat, j ≤ n ∧ i = .int .i64 j ∧ q = .int .i64 (k + j) ∧ ∃ m, wr = w.drewN m) (fun _ i _ => n - (intOf i).toNat)
  case atStart => exact ⟨0, by omega, rfl, by simp, 0, rfl⟩
  case round =>
    obtain ⟨j, hj, rfl, rfl, m, rfl⟩ := hrel
    by_cases hlt : j < n
    · obtain ⟨b1, o1, rfl, g1⟩ := r.int hlt
      rw [marksB, nth_tab _ _ _ hlt] at g1
      have hw : IntKind.u8.wrap (k + (j : Int)) = (k + (j : Int)) % 256 := wrap_u8 _
      generalize (k + (j : Int)) % 256 = y at g1 hw
      have hb : (y != y) = false := by simp
      go_wp2
      go_roundw
      case rel => exact ⟨j + 1, by omega, rfl, by go_num, m, rfl⟩
      case measure => simp [intOf]; omega
    · obtain rfl : j = n := by omega
      go_wp2
      go_ret
      exact ⟨rfl, m, rfl⟩
theorem szByteS_any (a : Option Addr) (c n : Nat) (left : Int) (w : World) (hn : n ≤ 9223372036854775807) (h0 : 0 ≤ left) (h1 : left ≤ 1048576) :
    Calls Tryd.prog 42 #[.slice a n c, .int .i64 left] w fun e w' => e = .returned (.int .i64 (if left - n < 0 then -1 else left - n)) ∧ w = w' := by
  by_cases h : left - n < 0
  · rw [if_pos h]
    have hd : decide (left - (n : Int) < 0) = true := by simpa using h
    go_enter Tryd.func42, Tryd.ntmps42
    go_wp2
    go_ret
    exact ⟨rfl, rfl⟩
  · rw [if_neg h]
    have hd : decide (left - (n : Int) < 0) = false := by simpa using h
    go_enter Tryd.func42, Tryd.ntmps42
    go_wp2
    go_ret
    exact ⟨rfl, rfl⟩
theorem szByteSS_any (a : Option Addr) (c n : Nat) (L : List (List Int)) (w : World) (hn : n ≤ 9223372036854775807) (r : SS w a n L) :
    Calls Tryd.prog 30 #[.slice a n c, .int .i64 1048576] w fun e w' => ∃ x : Int, e = .returned (.int .i64 x) ∧ (0 ≤ x → n ≤ 1048576 ∧ ∀ y ∈ L, y.length ≤ 1048576) ∧ Ext w w' := by
  by_cases hbig : (1048576 : Int) - n < 0
  · have hd : decide ((1048576 : Int) - (n : Int) < 0) = true := by simpa using hbig
    go_enter Tryd.func30, Tryd.ntmps30
    go_wp2
    go_ret
    exact ⟨-1, rfl, by omega, Below.refl _ _⟩
  · have hd : decide ((1048576 : Int) - (n : Int) < 0) = false := by simpa using hbig
    go_enter Tryd.func30, Tryd.ntmps30
    go_wp2_with fail
    go_loopw [1, 5] (fun q i wr => ∃ (k : Nat) (x : Int), k ≤ n ∧ i = .int .i64 k ∧ q = .int .i64 x ∧ 0 ≤ x ∧ x ≤ 1048576 ∧ Ext w wr ∧ Hid (∀ j, j < k → (lget L j).length ≤ 1048576)) (fun _ i _ => n - (intOf i).toNat)
    case atStart => exact ⟨0, _, by omega, rfl, rfl, by omega, by omega, Below.refl _ _, Lib.hid (fun j hj => by omega)⟩
    case round =>
      obtain ⟨k, x, hk, rfl, rfl, hx0, hx1, E2, Hall⟩ := hrel
      by_cases hlt : k < n
      · obtain ⟨b1, o1, rfl, a2, c2, h1, h2, h3, h4⟩ := (r.ext E2).2 k hlt
        obtain ⟨m, hm⟩ : ∃ m, m = (lget L k).length := ⟨_, rfl⟩
        rw [← hm] at h1 h2 h3
        have Hm := Lib.hid hm
        have hm2 : m ≤ 9223372036854775807 := Nat.le_trans h3 h4
        clear hm h2 h3 h4
        go_wp2_with fail
        refine (szByteS_any a2 c2 m x wr hm2 hx0 hx1).mono ?_
        rintro e w2 ⟨rfl, rfl⟩
        by_cases h : x - m < 0
        · rw [if_pos h]
          go_wp2
          go_ret
          exact ⟨-1, rfl, by omega, E2⟩
        · rw [if_neg h]
          have hd2 : decide (x - (m : Int) < 0) = false := by simpa using h
          go_wp2
          go_roundw
          case rel =>
            refine ⟨k + 1, _, by omega, by go_num, rfl, by omega, by omega, E2, Lib.hid (fun j hj => ?_)⟩
            by_cases hjk : j = k
            · subst hjk; have := Hm.out; omega
            · exact Hall.out j (by omega)
          case measure => simp [intOf]; omega
      · obtain rfl : k = n := by omega
        go_wp2
        go_ret
        refine ⟨_, rfl, fun _ => ⟨by omega, fun y hy => ?_⟩, E2⟩
        obtain ⟨j, hj, rfl⟩ := List.getElem_of_mem hy
        have := Hall.out j (by rw [r.1] at hj; exact hj)
        rw [lget_eq L j hj] at this
        exact this

/-- A list of byte strings of the call's own: the rows lie one behind the other. -/
def SSo (w : World) (B hi : Nat) (a : Option Addr) (n : Nat) (L : List (List Int)) : Prop :=
  L.length = n ∧ a = some ⟨B, 0, none⟩ ∧ ∃ bs : Nat → Nat, B + 1 ≤ bs 0 ∧ bs n ≤ hi ∧ (∀ i, i < n → bs i ≤ bs (i + 1)) ∧ ∀ i, i < n → ∃ (a' : Option Addr) (c' : Nat), w.cell? ⟨B, i, none⟩ = some (.slice a' (lget L i).length c') ∧ w.ownsRow (bs i) 5 1 (.slice a' (lget L i).length c') (lget L i).length ((lget L i).map (Value.int .u8)) ∧ ∀ y, a' = some y → y.block < bs (i + 1)
theorem SSo.toSS {w : World} {B hi : Nat} {a : Option Addr} {n : Nat} {L : List (List Int)} (h : SSo w B hi a n L) : SS w a n L := by
  obtain ⟨h1, rfl, bs, -, -, -, h5⟩ := h
  refine ⟨h1, fun i hi => ?_⟩
  obtain ⟨a', c', g1, g2, -⟩ := h5 i hi
  exact ⟨B, 0, rfl, a', c', by rw [Nat.zero_add]; exact g1, Sl.of_owns g2, (owns_cap g2).1, (owns_cap g2).2⟩
theorem SSo.ext {w w' : World} {B hi : Nat} {a : Option Addr} {n : Nat} {L : List (List Int)} (h : SSo w B hi a n L) (e : Ext w w') : SSo w' B hi a n L := by
  obtain ⟨h1, h2, bs, h3, h4, hm, h5⟩ := h
  refine ⟨h1, h2, bs, h3, h4, hm, fun i hi => ?_⟩
  obtain ⟨a', c', g1, g2, g3⟩ := h5 i hi
  exact ⟨a', c', cell_ext e g1, owns_ext g2 e, g3⟩
theorem eqByteS_same (a1 a2 : Option Addr) (c1 c2 n : Nat) (xs : List Int) (w : World) (hn : n < 2^47) (r1 : Sl w a1 n (xs.map (Value.int .u8))) (r2 : Sl w a2 n (xs.map (Value.int .u8))) :
    Calls Tryd.prog 44 #[.slice a1 n c1, .slice a2 n c2] w fun e w' => e = .returned (.bool true) ∧ ∃ m, w' = w.drewN m := by
  refine (eqByteS_any a1 a2 c1 c2 n n xs xs w hn hn r1 r2).mono ?_
  rintro e w' ⟨rfl, h⟩
  exact ⟨by rw [decide_eq_true rfl], h⟩
theorem info_ByteS : (Tryd.prog.info? 30).map (fun i => (i.zero, i.size, i.bytes)) = some (some (.slice none 0 0), 1, 24) := by kernel_rfl
theorem toByteSS_any (a : Option Addr) (c n : Nat) (L : List (List Int)) (w : World) (hn : n < 2^40) (r : SS w a n L) (hL : ∀ x ∈ L, x.length < 2^45) :
    Calls Tryd.prog 31 #[.slice a n c] w fun e w' => ∃ a' c', e = .returned (.slice a' n c') ∧ SSo w' w.heap.size w'.heap.size a' n L ∧ Ext w w' := by
  have Hl := Lib.hid r.1
  have HL := Lib.hid hL
  clear hL
  go_enter Tryd.func31, Tryd.ntmps31
  go_wp2_with (at_make; refine wpList_mk _ rfl _ _ 36 rfl 30 (.slice none 0 0) 24 Tryd.underlying36 info_ByteS rfl _ n rfl rfl rfl (by omega) (by omega) ?_; intro w1 hown hgrow)
  have E1 : Ext w w1 := (Ext.grown (Below.refl _ _) hgrow (by simp))
  have hs1 : w.heap.size < w1.heap.size := (hown.lt w.heap.size rfl).2
  obtain ⟨B, hB⟩ : ∃ B, B = w.heap.size := ⟨_, rfl⟩
  rw [← hB] at hown hs1 ⊢
  have HB := Lib.hid hB
  clear hB hgrow
  go_loopw [4] (fun i wr => ∃ (k : Nat) (cs : List Value), k ≤ n ∧ i = .int .i64 k ∧ Ext w wr ∧ B < wr.heap.size ∧ wr.ownsRow B 30 1 (.slice (some ⟨B, 0, none⟩) n n) n cs ∧ Hid (∃ bs : Nat → Nat, B + 1 ≤ bs 0 ∧ bs k ≤ wr.heap.size ∧ (∀ i, i < k → bs i ≤ bs (i + 1)) ∧ ∀ i, i < k → ∃ (a' : Option Addr) (c' : Nat), wr.cell? ⟨B, i, none⟩ = some (.slice a' (lget L i).length c') ∧ wr.ownsRow (bs i) 5 1 (.slice a' (lget L i).length c') (lget L i).length ((lget L i).map (Value.int .u8)) ∧ ∀ y, a' = some y → y.block < bs (i + 1))) (fun i _ => n - (intOf i).toNat)
  case atStart => exact ⟨0, _, by omega, rfl, E1, hs1, hown, Lib.hid ⟨fun _ => B + 1, Nat.le_refl _, by show B + 1 ≤ _; omega, fun i hi => by omega, fun i hi => by omega⟩⟩
  case round =>
    obtain ⟨k, cs, hk, rfl, E2, hs2, own2, Hall⟩ := hrel
    clear hown E1 hs1
    by_cases hlt : k < n
    · obtain ⟨b1, o1, rfl, a2, c2, h1, h2, h3, h4⟩ := (r.ext E2).2 k hlt
      have hdl := HL.out _ (lget_mem L k (by rw [Hl.out]; exact hlt))
      have hcl := toByteS_any a2 c2 (lget L k).length (lget L k) wr hdl h2
      clear h2 h3 h4
      go_wp2_with fail
      refine hcl.mono ?_
      rintro e w2 ⟨v3, rfl, own3, e3⟩
      obtain ⟨a3, c3, rfl⟩ := owns_form own3
      have own4 := owns_ext own2 e3
      obtain ⟨u0, d0, -⟩ := owns_get own4 hlt
      have f0 := own4.frozenAt k
      have hs3 : B < w2.heap.size := Nat.lt_of_lt_of_le hs2 e3.size
      have E3 := E2.trans e3
      have hrel2 : Hid (∃ bs : Nat → Nat, B + 1 ≤ bs 0 ∧ bs (k + 1) ≤ (w2.setCell ⟨B, k, none⟩ (.slice a3 (lget L k).length c3)).heap.size ∧ (∀ i, i < k + 1 → bs i ≤ bs (i + 1)) ∧ ∀ i, i < k + 1 → ∃ (a' : Option Addr) (c' : Nat), (w2.setCell ⟨B, k, none⟩ (.slice a3 (lget L k).length c3)).cell? ⟨B, i, none⟩ = some (.slice a' (lget L i).length c') ∧ (w2.setCell ⟨B, k, none⟩ (.slice a3 (lget L k).length c3)).ownsRow (bs i) 5 1 (.slice a' (lget L i).length c') (lget L i).length ((lget L i).map (Value.int .u8)) ∧ ∀ y, a' = some y → y.block < bs (i + 1)) := by
        obtain ⟨bs, k1, k2, k3, k4⟩ := Hall.out
        have gr : ∀ v, w2.grownBy (w2.setCell ⟨B, k, none⟩ v) (some B) := fun v => ⟨rfl, rfl, rfl, by simp, fun q _ hq => heap_setCell_other w2 ⟨B, k, none⟩ q _ (fun e => hq (by simp [e]))⟩
        have mono : ∀ i, i ≤ k → B + 1 ≤ bs i := by
          intro i
          induction i with
          | zero => intro _; exact k1
          | succ i ih => intro hi; exact Nat.le_trans (ih (by omega)) (k3 i (by omega))
        obtain ⟨bt, t1, t2, t3⟩ : ∃ bt : Nat → Nat, (∀ i, i < k → bt i = bs i) ∧ bt k = wr.heap.size ∧ bt (k + 1) = w2.heap.size :=
          ⟨fun i => if i < k then bs i else if i = k then wr.heap.size else w2.heap.size, fun i hi => by simp [hi], by simp, by simp; omega⟩
        have tle : ∀ i, i ≤ k → bs i ≤ bt i := fun i hi => by
          by_cases hik : i = k
          · subst hik; rw [t2]; exact k2
          · rw [t1 i (by omega)]; exact Nat.le_refl _
        refine Lib.hid ⟨bt, Nat.le_trans k1 (tle 0 (by omega)), by rw [t3]; simp, fun i hi => ?_, fun i hi => ?_⟩
        · by_cases hik : i = k
          · subst hik; rw [t2, t3]; exact e3.size
          · rw [t1 i (by omega)]
            exact Nat.le_trans (k3 i (by omega)) (tle (i + 1) (by omega))
        · by_cases hik : i = k
          · subst hik
            refine ⟨a3, c3, World.cell?_setCell_same _ _ _ d0, ?_, fun y hy => ?_⟩
            · rw [t2]; exact own_gr own3 (gr _) (by omega)
            · rw [t3]; exact (own3.lt y.block (by rw [hy]; rfl)).2
          · have hi2 : i < k := by omega
            obtain ⟨a', c', q1, q2, q3⟩ := k4 i hi2
            refine ⟨a', c', ?_, ?_, fun y hy => Nat.lt_of_lt_of_le (q3 y hy) (tle (i + 1) (by omega))⟩
            · rw [World.cell?_setCell_other _ _ _ _ (by intro e; simp at e <;> omega)]
              exact cell_ext e3 q1
            · rw [t1 i hi2]
              exact own_gr (owns_ext q2 e3) (gr _) (by have := mono i (by omega); omega)
      have st := own4.stored k (.slice a3 (lget L k).length c3)
      have Hst := Lib.hid (⟨Ext.grown E3 st.2 (by simp; exact Nat.le_of_eq HB.out.symm), st.1⟩ : Ext w (w2.setCell ⟨B, k, none⟩ (.slice a3 (lget L k).length c3)) ∧ (w2.setCell ⟨B, k, none⟩ (.slice a3 (lget L k).length c3)).ownsRow B 30 1 (.slice (some ⟨B, 0, none⟩) n n) n (cs.set k (.slice a3 (lget L k).length c3)))
      clear hcl own2 own3 own4 E2 E3 e3 Hall st h1
      go_wp2
      go_roundw
      case rel => exact ⟨k + 1, _, by omega, by go_num, Hst.out.1, by simpa using hs3, Hst.out.2, hrel2⟩
      case measure => simp [intOf]; omega
    · obtain rfl : k = n := by omega
      clear own2
      go_wp2
      go_ret
      first | refine ⟨_, _, rfl, ?_, E2⟩ | refine ⟨_, ⟨_, rfl⟩, ?_, E2⟩
      obtain ⟨bs, k1, k2, k3, k4⟩ := Hall.out
      rw [← HB.out]
      exact ⟨Hl.out, rfl, bs, k1, k2, k3, k4⟩
theorem eqByteSS_same (a b : Option Addr) (c d n : Nat) (L : List (List Int)) (w : World) (hn : n < 2^40) (hL : ∀ x ∈ L, x.length < 2^45) (r1 : SS w a n L) (r2 : SS w b n L) :
    Calls Tryd.prog 32 #[.slice a n c, .slice b n d] w fun e w' => e = .returned (.bool true) ∧ Ext w w' := by
  have Hl := Lib.hid r1.1
  have HL := Lib.hid hL
  clear hL
  go_enter Tryd.func32, Tryd.ntmps32
  go_wp2_with fail
  go_loopw [5] (fun i wr => ∃ (k : Nat), k ≤ n ∧ i = .int .i64 k ∧ Ext w wr) (fun i _ => n - (intOf i).toNat)
  case atStart => exact ⟨0, by omega, rfl, Below.refl _ _⟩
  case round =>
    obtain ⟨k, hk, rfl, E2⟩ := hrel
    by_cases hlt : k < n
    · obtain ⟨b1, o1, rfl, a2, c2, h1, h2, h3, h4⟩ := (r1.ext E2).2 k hlt
      obtain ⟨b2, o2, rfl, a3, c3, j1, j2, j3, j4⟩ := (r2.ext E2).2 k hlt
      have hdl := HL.out _ (lget_mem L k (by rw [Hl.out]; exact hlt))
      have hcl := fun (wz : World) (e : Ext wr wz) => eqByteS_same a2 a3 c2 c3 _ (lget L k) wz (by omega) (h2.ext e) (j2.ext e)
      have Hcl := Lib.hid hcl
      clear r1 r2 hcl h2 h3 h4 j2 j3 j4
      go_wp2_with fail
      refine wp_region_inv2 (by kernel_rfl) [(17, 0), (18, 1), (19, 2), (20, 3), (21, 4), (22, 5), (23, 6), (24, 7), (25, 8), (26, 9)] [[], [], [0, 1], [0, 1, 2], [], [], [4, 5], [4, 5, 6], [0, 1, 2, 3, 4, 5, 6, 7], [0, 1, 2, 3, 4, 5, 6, 7, 8]] (fun i own ys wx => match i with | 0 => own = .slice (some ⟨b1, o1, none⟩) n c | 1 => own = .int .i64 k | 2 => own = .pointer (some ⟨b1, o1 + k, none⟩) | 3 => own = .slice a2 (lget L k).length c2 | 4 => own = .slice (some ⟨b2, o2, none⟩) n d | 5 => own = .int .i64 k | 6 => own = .pointer (some ⟨b2, o2 + k, none⟩) | 7 => own = .slice a3 (lget L k).length c3 | 8 => own = .bool true | 9 => own = .bool false | _ => True) (fun kx wx => Ext wr wx) (by kernel_rfl) (by kernel_rfl) (by kernel_rfl) ?g0_r1 ?gop_r1 ?gend_r1
      case g0_r1 => exact Ext.drewN _ 1
      case gop_r1 =>
        refine ⟨?_, ?_, ?o2, ?o3, ?_, ?_, ?o6, ?o7, ?o8, ?o9, trivial⟩ <;> (intro kx xs wx hk hG hD hI Qo Kx hK hQo; simp only [patchS, Nat.reduceAdd, Nat.reduceEqDiff, ↓reduceIte] at hQo ⊢)
        case o2 =>
          rw [ddq (hD 0 rfl), ddq (hD 1 rfl)] at hQo ⊢
          clear hD hI
          go_wp2
          exact hK.out _ _ ⟨rfl, hG, kkp⟩
        case o3 =>
          rw [ddq (hD 2 rfl)] at hQo ⊢
          clear hD hI
          have h1' := (cell_ext hG h1)
          go_wp2
          exact hK.out _ _ ⟨rfl, hG, kkp⟩
        case o6 =>
          rw [ddq (hD 4 rfl), ddq (hD 5 rfl)] at hQo ⊢
          clear hD hI
          go_wp2
          exact hK.out _ _ ⟨rfl, hG, kkp⟩
        case o7 =>
          rw [ddq (hD 6 rfl)] at hQo ⊢
          clear hD hI
          have h1' := (cell_ext hG j1)
          go_wp2
          exact hK.out _ _ ⟨rfl, hG, kkp⟩
        case o8 =>
          rw [ddq (hD 3 rfl), ddq (hD 7 rfl)] at hQo ⊢
          clear hD hI
          go_wp2_with fail
          refine (Hcl.out _ hG).mono ?_
          rintro e w4 ⟨rfl, m4, rfl⟩
          have e4 : Ext wx (wx.drewN m4) := Ext.drewN _ _
          go_wp2
          exact hK.out _ _ ⟨rfl, hG.trans e4, kkp⟩
        case o9 =>
          rw [ddq (hD 8 rfl)] at hQo ⊢
          clear hD hI
          go_wp2
          exact hK.out _ _ ⟨rfl, hG, kkp⟩
        all_goals
          clear hD hI
          go_wp2
          exact hK.out _ _ ⟨rfl, hG, kkp⟩
      intro xs wx hV hG
      have d0 : _ = _ := hV 0 (by decide)
      have d1 : _ = _ := hV 1 (by decide)
      have d2 : _ = _ := hV 2 (by decide)
      have d3 : _ = _ := hV 3 (by decide)
      have d4 : _ = _ := hV 4 (by decide)
      have d5 : _ = _ := hV 5 (by decide)
      have d6 : _ = _ := hV 6 (by decide)
      have d7 : _ = _ := hV 7 (by decide)
      have d8 : _ = _ := hV 8 (by decide)
      have d9 : _ = _ := hV 9 (by decide)
      clear hV
      simp only [patchS, Nat.reduceAdd, Nat.reduceEqDiff, ↓reduceIte]
      generalize xs 0 = y0, xs 1 = y1, xs 2 = y2, xs 3 = y3, xs 4 = y4, xs 5 = y5, xs 6 = y6, xs 7 = y7, xs 8 = y8, xs 9 = y9 at *
      replace hG : Ext wr wx := hG
      subst d0
      subst d1
      subst d2
      subst d3
      subst d4
      subst d5
      subst d6
      subst d7
      subst d8
      subst d9
      go_wp2
      go_roundw
      case rel => exact ⟨k + 1, by omega, by go_num, E2.trans hG⟩
      case measure => simp [intOf]; omega
    · obtain rfl : k = n := by omega
      go_wp2
      go_ret
      exact ⟨rfl, E2⟩
theorem markByteSS_any (a : Option Addr) (c B hi n : Nat) (L : List (List Int)) (k0 : Int) (w : World) (hn : n ≤ 1048576) (hk0 : 0 ≤ k0) (hk1 : k0 ≤ 2^50) (hL : ∀ x ∈ L, x.length ≤ 1048576) (r : SSo w B hi a n L) (hh : hi ≤ w.heap.size) :
    Calls Tryd.prog 25 #[.slice a n c, .int .i64 k0] w fun e w' => ∃ x : Int, e = .returned (.int .i64 x) ∧ 0 ≤ x ∧ x ≤ 2^51 ∧ Tch w w' (B + 1) hi := by
  obtain ⟨hl, rfl, bs, b0, b1, b2, b3⟩ := r
  have Hl := Lib.hid hl
  have HL := Lib.hid hL
  have HB3 := Lib.hid b3
  have mono : ∀ i, i ≤ n → B + 1 ≤ bs i := by
    intro i
    induction i with
    | zero => intro _; exact b0
    | succ i ih => intro hi'; exact Nat.le_trans (ih (by omega)) (b2 i (by omega))
  have monoU : ∀ d i, i + d = n → bs i ≤ hi := by
    intro d
    induction d with
    | zero => intro i hi'; obtain rfl : i = n := by omega
              exact b1
    | succ d ih => intro i hi'; exact Nat.le_trans (b2 i (by omega)) (ih (i + 1) (by omega))
  have mono2 : ∀ d i, i + d ≤ n → bs i ≤ bs (i + d) := by
    intro d
    induction d with
    | zero => intro i _; exact Nat.le_refl _
    | succ d ih => intro i hi'; exact Nat.le_trans (ih i (by omega)) (b2 (i + d) (by omega))
  have HM := Lib.hid mono
  have HU := Lib.hid monoU
  have HM2 := Lib.hid mono2
  clear hl hL b0 b1 b2 b3 mono monoU mono2
  go_enter Tryd.func25, Tryd.ntmps25
  go_wp2_with fail
  go_loopw [1, 5] (fun q i wr => ∃ (k : Nat) (x : Int), k ≤ n ∧ i = .int .i64 k ∧ q = .int .i64 x ∧ 0 ≤ x ∧ x ≤ 2^50 + k * 1048576 ∧ Tch w wr (B + 1) hi ∧ Hid (∀ p, p < w.heap.size → bs k ≤ p → wr.heap[p]? = w.heap[p]?)) (fun _ i _ => n - (intOf i).toNat)
  case atStart => exact ⟨0, _, by omega, rfl, rfl, by omega, by omega, Tch.refl _ _ _, Lib.hid (fun p _ _ => rfl)⟩
  case round =>
    obtain ⟨k, x, hk, rfl, rfl, hx0, hx1, T2, hsame⟩ := hrel
    have hkm : (k : Int) * 1048576 ≤ 1048576 * 1048576 := by omega
    by_cases hlt : k < n
    · obtain ⟨a', c', g1, g2, g3⟩ := HB3.out k hlt
      have hdl := HL.out _ (lget_mem L k (by rw [Hl.out]; exact hlt))
      have c1 : wr.cell? ⟨B, k, none⟩ = some (.slice a' (lget L k).length c') := T2.cell g1 (by simp)
      have own2 : wr.ownsRow (bs k) 5 1 (.slice a' (lget L k).length c') (lget L k).length ((lget L k).map (Value.int .u8)) := by
        obtain ⟨o1, o2⟩ := g2
        refine ⟨o1, ?_⟩
        rcases o2 with o2 | ⟨g, cap, cur, hv, hg, r1, r2⟩
        · exact .inl o2
        · exact .inr ⟨g, cap, cur, hv, hg, by rw [hsame.out g (lt_of_block r1) hg]; exact r1, r2⟩
      have hub := HU.out (n - (k + 1)) (k + 1) (by omega)
      have hlo := HM.out k hk
      have hrow : ∀ q, (Value.slice a' (lget L k).length c').ownBlock = some q → bs k ≤ q ∧ q < bs (k + 1) := fun q hq => by
        refine ⟨owns_ge own2 q hq, ?_⟩
        cases a' with
        | none => simp [Value.ownBlock] at hq
        | some y =>
          have h9 := g3 y rfl
          have h8 : y.block = q := by simpa [Value.ownBlock] using hq
          omega
      have hcl := markByteS_any (.slice a' (lget L k).length c') (lget L k).length _ x (bs k) wr (by omega) hx0 (by omega) own2
      have Hrow := Lib.hid hrow
      clear g1 g2 g3 own2 hrow
      go_wp2_with fail
      refine hcl.mono ?_
      rintro e w4 ⟨rfl, -, gr⟩
      have T3 : Tch w w4 (B + 1) hi := by
        refine ⟨gr.os.trans T2.os, gr.tape.trans T2.tape, gr.output.trans T2.output, Nat.le_trans T2.size gr.size, fun p hp ho => ?_⟩
        rw [gr.block p (Nat.lt_of_lt_of_le hp T2.size) (fun e => by have := Hrow.out p e.symm; omega)]
        exact T2.block p hp ho
      have hs2 : Hid (∀ p, p < w.heap.size → bs (k + 1) ≤ p → w4.heap[p]? = w.heap[p]?) := Lib.hid (fun p hp hb => by
        rw [gr.block p (Nat.lt_of_lt_of_le hp T2.size) (fun e => by have := Hrow.out p e.symm; omega)]
        exact hsame.out p hp (Nat.le_trans (HM2.out 1 k (by omega)) hb))
      clear hcl gr T2 hsame
      go_wp2
      go_roundw
      case rel => exact ⟨k + 1, x + (lget L k).length, by omega, by go_num, by first | rfl | go_num, by omega, by push_cast; omega, T3, hs2⟩
      case measure => simp [intOf]; omega
    · obtain rfl : k = n := by omega
      go_wp2
      go_ret
      exact ⟨x, rfl, hx0, by omega, T2⟩
end Go.Proofs.YtmokncpppmchfaaDoor
