/- readContainer: the walk. -/
import Derived.Test.YtpjjadmjdafkeaaDoorRd
import Derived.Test.YtpjjadmjdafkeaaDoorD7
namespace Go.Proofs.YtpjjadmjdafkeaaDoor
open Go.RowKit
set_option maxHeartbeats 2000000
theorem own_ne_blk' {w : World} {b1 b2 e1 e2 s1 s2 n1 n2 : Nat} {v1 v2 : Value} {x1 x2 : List Value} (h1 : w.ownsRow b1 e1 s1 v1 n1 x1) (h2 : w.ownsRow b2 e2 s2 v2 n2 x2) (hne : e1 ≠ e2) : v1.ownBlock = none ∨ v1.ownBlock ≠ v2.ownBlock := owns_ne h1 h2 hne
theorem tk1_num (d : List Int) : (hb : bys d) → tk1 d false = ((cNum d : Nat) : Int) := by
  intro hb
  unfold tk1 cNum
  cases d with
  | nil => rfl
  | cons x l =>
    have h := tkB_false (rest := x :: l) (er := false) (n := 1) (tkE_false.2 ⟨rfl, by simp⟩)
    rw [h]
    have := hb x (by simp)
    simp [nth]
    omega
theorem Sl.intrange {w : World} {a : Option Addr} {n : Nat} {ls : List Int} (_ : Sl w a n (ls.map (Value.int .i64))) : True := trivial
/-- Two rows do not share a block. -/
def dis (v v' : Value) : Prop := v.ownBlock = none ∨ v.ownBlock ≠ v'.ownBlock
/-- A list of entries in own rows, no two of which share a block. -/
def SEd (w : World) (lo : Nat) (v : Value) (L : List Smp) : Prop :=
  ∃ cs, w.ownsRow lo 40 3 v L.length cs ∧ (∀ i, i < L.length → SEa w lo cs i (sget L i)) ∧ ∀ i j, i < j → j < L.length → dis (cs.getD (i * 3 + 2) undef) (cs.getD (j * 3 + 2) undef)
theorem SEd.toSE {w : World} {lo : Nat} {v : Value} {L : List Smp} (h : SEd w lo v L) : SE w lo v L := by
  obtain ⟨cs, h1, h2, -⟩ := h; exact ⟨cs, h1, h2⟩
theorem SEd.ext {w w' : World} {lo : Nat} {v : Value} {L : List Smp} (h : SEd w lo v L) (e : Ext w w') : SEd w' lo v L := by
  obtain ⟨cs, h1, h2, h0⟩ := h
  refine ⟨cs, owns_ext h1 e, fun i hi => ?_, h0⟩
  obtain ⟨a', c', h3, h4, h5, h6⟩ := h2 i hi
  exact ⟨a', c', h3, h4, h5, owns_ext h6 e⟩
/-- The data of the first k entries. -/
def DatE (w : World) (lo : Nat) (d : List Int) (cs : List Value) (k : Nat) : Prop :=
  ∀ i, i < k → ∃ (a' : Option Addr) (c' : Nat), cs[i * 3 + 2]? = some (.slice a' (cD d i).length c') ∧ w.ownsRow lo 5 1 (.slice a' (cD d i).length c') (cD d i).length ((cD d i).map (Value.int .u8))
def DatOk (w : World) (lo : Nat) (d : List Int) (cs : List Value) (k : Nat) : Prop :=
  DatE w lo d cs k ∧ ∀ i j, i < j → j < k → dis (cs.getD (i * 3 + 2) undef) (cs.getD (j * 3 + 2) undef)
theorem DatE.keep {w w' : World} {lo q k : Nat} {d : List Int} {cs : List Value} {arr : Array Value} {T : TypeId} (h : DatE w lo d cs k) (g : w.grownBy w' (some q)) (hq : w.heap[q]? = some (.cells arr T (0, 0))) (hne : 5 ≠ T) : DatE w' lo d cs k := by
  intro i hi
  obtain ⟨a', c', h1, h2⟩ := h i hi
  exact ⟨a', c', h1, h2.kept g (own_ne_blk h2 hq hne)⟩
/-- The state behind k entries' data. -/
def BdS (d : List Int) (cs : List Value) (ls : List Int) (k : Nat) (rest : List Int) (er : Bool) : Prop :=
  bys rest ∧ (er = false → rest = d.drop (cAt d k) ∧ cAt d k ≤ d.length ∧ HdOk d cs ls (cNum d)) ∧ (er = true → ¬ fits d)
theorem BdS.step {d rest : List Int} {cs : List Value} {ls : List Int} {j m : Nat} {er : Bool} {v : Value} (h : BdS d cs ls j rest er) (hj : j < cNum d) (hm : nth ls j = (m : Int)) :
    BdS d (cs.set (j * 3 + 2) v) ls (j + 1) (tkR rest er m) (tkE rest er m) := by
  obtain ⟨hb, h0, h1⟩ := h
  refine ⟨tkR_bys hb _ _, fun he => ?_, fun he => ?_⟩
  · obtain ⟨e0, e1⟩ := tkE_false.1 he
    obtain ⟨r0, l0, l1, l2⟩ := h0 e0
    obtain ⟨-, -, g2⟩ := l2 j hj
    have hcN : (cN d j).toNat = m := by rw [← g2, hm]; rfl
    rw [r0, List.length_drop] at e1
    refine ⟨?_, ?_, l1, fun i hi => ?_⟩
    · rw [tkR_false he, r0, List.drop_drop]; simp only [cAt, hcN]
    · simp only [cAt, hcN]; omega
    · obtain ⟨k0, k1, k2⟩ := l2 i hi
      exact ⟨by rw [List.getElem?_set_ne (by omega)]; exact k0, by rw [List.getElem?_set_ne (by omega)]; exact k1, k2⟩
  · cases er with
    | true => exact h1 rfl
    | false =>
      obtain ⟨r0, l0, l1, l2⟩ := h0 rfl
      obtain ⟨-, -, g2⟩ := l2 j hj
      have hcN : (cN d j).toNat = m := by rw [← g2, hm]; rfl
      rcases tkE_true.1 he with h | h
      · cases h
      · rw [r0, List.length_drop] at h
        intro hf
        have h3 := hf.2.2
        have h4 := cAt_le d (j + 1) (cNum d) hj
        simp only [cAt, hcN] at h4
        omega
theorem DatE.step {w w5 w6 : World} {lo B Q j m c5 : Nat} {a5 : Option Addr} {d rest : List Int} {cs ls : List Value} {lsI : List Int} {er : Bool} {arr arr2 : Array Value} {T : TypeId} (hB : BdS d cs lsI j rest er) (hj : j < cNum d) (hm : nth lsI j = (m : Int))
    (h : er = false → DatE w lo d cs j) (g5 : w.grownBy w5 (some Q)) (hq : w.heap[Q]? = some (.cells arr T (0, 0))) (hT : 5 ≠ T) (own5 : w5.ownsRow w.heap.size 5 1 (.slice a5 m c5) m ((tkB rest er m).map (Value.int .u8))) (hlo : lo ≤ w.heap.size)
    (g6 : w5.grownBy w6 (some B)) (hB5 : w5.heap[B]? = some (.cells arr2 40 (0, 0))) (hcl : j * 3 + 2 < cs.length) :
    tkE rest er m = false → DatE w6 lo d (cs.set (j * 3 + 2) (.slice a5 m c5)) (j + 1) := by
  intro he i hi
  obtain ⟨e0, e1⟩ := tkE_false.1 he
  obtain ⟨r0, l0, l1, l2⟩ := hB.2.1 e0
  by_cases hij : i = j
  · subst hij
    obtain ⟨-, -, g2⟩ := l2 i hj
    have hcN : (cN d i).toNat = m := by rw [← g2, hm]; rfl
    have hD : cD d i = rest.take m := by unfold cD; rw [hcN, r0]
    have hl : (cD d i).length = m := by rw [hD]; simp; omega
    have o6 := own5.kept g6 (own_ne_blk own5 hB5 (by decide))
    rw [tkB_false he, ← hD] at o6
    rw [hl]
    exact ⟨a5, c5, by rw [List.getElem?_set_self hcl], owns_mono o6 hlo⟩
  · obtain ⟨a', c', k1, k2⟩ := h e0 i (by omega)
    have k3 := k2.kept g5 (own_ne_blk k2 hq hT)
    exact ⟨a', c', by rw [List.getElem?_set_ne (by omega)]; exact k1, k3.kept g6 (own_ne_blk k3 hB5 (by decide))⟩
theorem DatOk.step {w w5 w6 : World} {lo B Q j m c5 : Nat} {a5 : Option Addr} {d rest : List Int} {cs ls : List Value} {lsI : List Int} {er : Bool} {arr arr2 : Array Value} {T : TypeId} (hB : BdS d cs lsI j rest er) (hj : j < cNum d) (hm : nth lsI j = (m : Int))
    (h : er = false → DatOk w lo d cs j) (g5 : w.grownBy w5 (some Q)) (hq : w.heap[Q]? = some (.cells arr T (0, 0))) (hT : 5 ≠ T) (own5 : w5.ownsRow w.heap.size 5 1 (.slice a5 m c5) m ((tkB rest er m).map (Value.int .u8))) (hlo : lo ≤ w.heap.size)
    (g6 : w5.grownBy w6 (some B)) (hB5 : w5.heap[B]? = some (.cells arr2 40 (0, 0))) (hcl : j * 3 + 2 < cs.length) :
    tkE rest er m = false → DatOk w6 lo d (cs.set (j * 3 + 2) (.slice a5 m c5)) (j + 1) := by
  intro he
  have e0 := (tkE_false.1 he).1
  refine ⟨DatE.step (ls := ls) hB hj hm (fun e => (h e).1) g5 hq hT own5 hlo g6 hB5 hcl he, fun i q hi hqj => ?_⟩
  obtain ⟨a', c', k1, k2⟩ := (h e0).1 i (by omega)
  rw [List.getD_eq_getElem?_getD, List.getD_eq_getElem?_getD, List.getElem?_set_ne (show j * 3 + 2 ≠ i * 3 + 2 by omega)]
  by_cases hqe : q = j
  · subst hqe
    rw [List.getElem?_set_self hcl, k1]
    show dis (.slice a' _ c') (.slice a5 m c5)
    unfold dis
    cases hv : (Value.slice a' (cD d i).length c').ownBlock with
    | none => exact .inl rfl
    | some p =>
      right
      intro he2
      have h1 := (k2.lt p hv).2
      have h2 := (own5.lt p he2.symm).1
      omega
  · rw [List.getElem?_set_ne (show j * 3 + 2 ≠ q * 3 + 2 by omega), ← List.getD_eq_getElem?_getD, ← List.getD_eq_getElem?_getD]
    exact (h e0).2 i q hi (by omega)
set_option maxRecDepth 100000 in
theorem readContainer_any (a : Option Addr) (c n : Nat) (d : List Int) (w : World) (hc : n ≤ c ∧ c ≤ 9223372036854775807) (r : Sl w a n (d.map (Value.int .u8))) (hb : bys d) (hblk : ∀ y, a = some y → y.block < w.heap.size) :
    Calls Tryd.prog 28 #[.slice a n c] w fun e w' =>
      (fits d ∧ ∃ a' c', e = .returned (.tuple #[.slice a' (cNum d) c', .nilIface]) ∧ SEd w' w.heap.size (.slice a' (cNum d) c') (cL d) ∧ Ext w w') ∨ (¬ fits d ∧ ∃ v s, e = .returned (.tuple #[v, .iface 70 (.agg #[.string s])]) ∧ Ext w w') := by
  obtain ⟨i0, hi, hz0, hz1, hz2⟩ := info_parts info_Sample
  have EA := Ext.alloc w (.cells #[.slice a n c, .nilIface] 61)
  have CA : CuS (w.alloc (.cells #[.slice a n c, .nilIface] 61)) w.heap.size d false := ⟨a, n, c, blk_new _ _, r.ext EA, hc.1, hc.2, hblk⟩
  have Hb := Lib.hid hb
  have HN := Lib.hid (tk1_num d hb)
  have hN255 : cNum d ≤ 255 := by have := tk1_le hb false; rw [HN.out] at this; omega
  obtain ⟨N, hN⟩ : ∃ N, N = cNum d := ⟨_, rfl⟩
  have HNN := Lib.hid hN
  rw [← hN] at hN255
  clear hb hblk r hc hN
  go_enter Tryd.func28, Tryd.ntmps28
  go_wp2_with fail
  refine (one_any _ _ d false _ Hb.out CA).mono ?_
  rintro e w1 ⟨he, C1, g1⟩
  rw [HN.out, ← HNN.out] at he
  subst he
  have E1 : Ext w w1 := Ext.grown EA g1 (fun k hk => by cases hk; exact Nat.le_refl _)
  have hs1 := E1.size
  have hq1 := C1.lt
  clear CA g1 EA
  go_wp2_with (first | (at_make; refine wpList_make_full _ rfl _ _ 23 rfl w1.heap.size 40 i0 (.agg #[.int .i64 0, .bool false, .slice none 0 0]) 3 Tryd.underlying23 hi hz0 hz1 .i64 .i64 _ _ N rfl rfl rfl rfl (by rw [hz2]; omega) (by unfold maxLen; omega) (Nat.le_refl _) ?_; intro w2 hown2 hgrow2; refine Hid.out ?_))
  have e2 := ext_none hgrow2 rfl
  have E2 := E1.trans e2
  have C2 := C1.gr hgrow2
  have hs2 : w1.heap.size < w2.heap.size := (hown2.lt w1.heap.size rfl).2
  obtain ⟨cs0, hcs0⟩ : ∃ cs0, cs0 = (List.replicate N ((Value.agg #[.int .i64 0, .bool false, .slice none 0 0]).cells.toList)).flatten := ⟨_, rfl⟩
  clear C1 hgrow2 hcs0
  refine Lib.hid ?_
  go_wp2_with (at_make; refine wpList_mk _ rfl _ _ 44 rfl 3 (.int .i64 0) 8 Tryd.underlying44 info_int rfl _ N rfl rfl rfl (by omega) (by omega) ?_; intro w3 hown3 hgrow3; refine Hid.out ?_)
  have e3 := ext_none hgrow3 rfl
  have E3 := E2.trans e3
  have C3 := C2.gr hgrow3
  have o3 := owns_ext hown2 e3
  have hs3 : w2.heap.size < w3.heap.size := (hown3.lt w2.heap.size rfl).2
  have ol3 : w3.ownsRow w1.heap.size 3 1 (.slice (some ⟨w2.heap.size, 0, none⟩) N N) N ((List.replicate N (0 : Int)).map (Value.int .i64)) := by
    rw [List.map_replicate]; exact owns_mono hown3 (Nat.le_of_lt hs2)
  have HS3 : Hid (HdS d [] (List.replicate N 0) 0 (tkR d false 1) (tkE d false 1)) := Lib.hid ⟨tkR_bys Hb.out _ _, fun he => by
      have h1 := tkE_false.1 he
      exact ⟨tkR_false he, by omega, fun i hi => by omega⟩, fun he hf => by
      rcases tkE_true.1 he with h | h
      · cases h
      · have := hf.1; omega⟩
  clear C2 hown2 hown3 hgrow3 E1 E2 e2 e3
  generalize w2.heap.size = G2 at *
  generalize w1.heap.size = G1 at *
  generalize hQ : w.heap.size = Q at *
  have hQw : w.heap.size ≤ Q := by omega
  clear hQ
  refine Lib.hid ?_
  obtain ⟨cs3, hcs3⟩ : ∃ cs3, cs3 = (madeCells (Value.agg #[Value.int .i64 0, .bool false, .slice none 0 0]).cells (N * 3)).toList := ⟨_, rfl⟩
  rw [← hcs3] at o3
  have HS4 : Hid (HdS d cs3 (List.replicate N 0) 0 (tkR d false 1) (tkE d false 1)) := Lib.hid (by
    obtain ⟨k1, k2, k3⟩ := HS3.out
    refine ⟨k1, fun he => ?_, k3⟩
    obtain ⟨k4, k5⟩ := k2 he
    exact ⟨k4, k5.1, fun i hi => by omega⟩)
  have HZ3 : Hid (∀ z ∈ List.replicate N (0 : Int), 0 ≤ z ∧ z ≤ 65535) := Lib.hid (fun z hz => by simp at hz; omega)
  clear hcs3 HS3
  go_wp2_with fail
  go_loopw [7, 19] (fun _ i wr => ∃ (k : Nat) (cs : List Value) (ls : List Int) (rest : List Int) (er : Bool), k ≤ N ∧ i = .int .i64 k ∧ Ext w wr ∧ wr.ownsRow G1 40 3 (.slice (some ⟨G1, 0, none⟩) N N) N cs ∧ wr.ownsRow G1 3 1 (.slice (some ⟨G2, 0, none⟩) N N) N (ls.map (Value.int .i64)) ∧ CuS wr Q rest er ∧ Hid (HdS d cs ls k rest er) ∧ Hid (∀ z ∈ ls, 0 ≤ z ∧ z ≤ 65535)) (fun _ i _ => N - (intOf i).toNat)
  case atStart => exact ⟨0, _, _, _, _, by omega, rfl, E3, o3, ol3, C3, HS4, HZ3⟩
  case round =>
    obtain ⟨k, cs, ls, rest, er, hk, rfl, E4, o4, ol4, C4, HH, HZ⟩ := hrel
    clear o3 ol3 C3 HS4 HZ3 E3
    by_cases hlt : k < N
    · have hbr := HH.out.1
      have HBR := Lib.hid hbr
      have hcl : cs.length = N * 3 := o4.1
      have hll : ls.length = N := by have := ol4.1; simpa using this
      have HSt := Lib.hid (HdS.step HH.out hlt HNN.out hcl hll)
      have Ht2 := tk2_le hbr er
      have Hk2 := tk1_le (tkR_bys hbr er 2) (tkE rest er 2)
      have Hl2 := tk2_le (tkR_bys (tkR_bys hbr er 2) (tkE rest er 2) 1) (tkE (tkR rest er 2) (tkE rest er 2) 1)
      have BR1 := Lib.hid (tkR_bys hbr er 2)
      have BR2 := Lib.hid (tkR_bys (tkR_bys hbr er 2) (tkE rest er 2) 1)
      have hp1 := fun s w' h => pair_any Q s rest er w' hbr h
      have hp2 := fun s w' h => one_any Q s (tkR rest er 2) (tkE rest er 2) w' BR1.out h
      have hp3 := fun s w' h => pair_any Q s (tkR (tkR rest er 2) (tkE rest er 2) 1) (tkE (tkR rest er 2) (tkE rest er 2) 1) w' BR2.out h
      generalize tkR (tkR (tkR rest er 2) (tkE rest er 2) 1) (tkE (tkR rest er 2) (tkE rest er 2) 1) 2 = R3 at *
      generalize tkE (tkR (tkR rest er 2) (tkE rest er 2) 1) (tkE (tkR rest er 2) (tkE rest er 2) 1) 2 = X3 at *
      generalize tk2 (tkR (tkR rest er 2) (tkE rest er 2) 1) (tkE (tkR rest er 2) (tkE rest er 2) 1) = ln at *
      generalize tk1 (tkR rest er 2) (tkE rest er 2) = ky at *
      generalize tk2 rest er = tm at *
      generalize tkR (tkR rest er 2) (tkE rest er 2) 1 = R2 at *
      generalize tkE (tkR rest er 2) (tkE rest er 2) 1 = X2 at *
      generalize tkR rest er 2 = R1 at *
      generalize tkE rest er 2 = X1 at *
      have Hp1 := Lib.hid hp1
      have Hp2 := Lib.hid hp2
      have Hp3 := Lib.hid hp3
      clear hp1 hp2 hp3 hbr HH hcl hll BR1 BR2 HBR
      go_wp2_with fail
      refine (Hp1.out _ _ C4).mono ?_
      rintro e w5 ⟨rfl, C5, g5⟩
      have E5 : Ext w w5 := Ext.grown E4 g5 (fun q hq => by cases hq; omega)
      have o5 := C4.keep g5 o4 (by decide)
      have ol5 := C4.keep g5 ol4 (by decide)
      obtain ⟨u0, d0, -⟩ := owns_at o5 (j := k * 3) (by omega)
      have f0 := o5.frozenAt (k * 3)
      obtain ⟨o6, g6⟩ := o5.stored (k * 3) (.int .i64 tm)
      have C6 := C5.own g6 o5 (by omega)
      have ol6 := ol5.kept g6 (by rcases own_ne_blk' ol5 o5 (by decide) with h | h; exact .inl h; exact .inr h)
      have E6 : Ext w (w5.setCell ⟨G1, k * 3, none⟩ (.int .i64 tm)) := Ext.grown E5 g6 (fun q hq => by cases hq; omega)
      clear C4 g5 o4 ol4 E4 C5 o5 ol5 g6 E5
      go_wp2_with fail
      generalize w5.setCell ⟨G1, k * 3, none⟩ (.int .i64 tm) = w6 at *
      refine (Hp2.out _ _ C6).mono ?_
      rintro e w7 ⟨rfl, C7, g7⟩
      have E7 : Ext w w7 := Ext.grown E6 g7 (fun q hq => by cases hq; omega)
      have o7 := C6.keep g7 o6 (by decide)
      have ol7 := C6.keep g7 ol6 (by decide)
      obtain ⟨u1, d1, -⟩ := owns_at o7 (j := k * 3 + 1) (by omega)
      have f1 := o7.frozenAt (k * 3 + 1)
      obtain ⟨o8, g8⟩ := o7.stored (k * 3 + 1) (.bool (ky == 1))
      have C8 := C7.own g8 o7 (by omega)
      have ol8 := ol7.kept g8 (by rcases own_ne_blk' ol7 o7 (by decide) with h | h; exact .inl h; exact .inr h)
      have E8 : Ext w (w7.setCell ⟨G1, k * 3 + 1, none⟩ (.bool (ky == 1))) := Ext.grown E7 g8 (fun q hq => by cases hq; omega)
      clear C6 g7 o6 ol6 E6 C7 o7 ol7 g8 E7 d0 f0
      go_wp2_with fail
      generalize w7.setCell ⟨G1, k * 3 + 1, none⟩ (.bool (ky == 1)) = w8 at *
      refine (Hp3.out _ _ C8).mono ?_
      rintro e w9 ⟨rfl, C9, g9⟩
      have E9 : Ext w w9 := Ext.grown E8 g9 (fun q hq => by cases hq; omega)
      have o9 := C8.keep g9 o8 (by decide)
      have ol9 := C8.keep g9 ol8 (by decide)
      obtain ⟨u2, d2, -⟩ := owns_get ol9 (j := k) (by omega)
      have f2 := ol9.frozenAt k
      obtain ⟨olA, gA⟩ := ol9.stored k (.int .i64 ln)
      have CA := C9.own gA ol9 (by omega)
      have oA := o9.kept gA (by rcases own_ne_blk' o9 ol9 (by decide) with h | h; exact .inl h; exact .inr h)
      have EA : Ext w (w9.setCell ⟨G2, k, none⟩ (.int .i64 ln)) := Ext.grown E9 gA (fun q hq => by cases hq; omega)
      have olB : (w9.setCell ⟨G2, k, none⟩ (.int .i64 ln)).ownsRow G1 3 1 (.slice (some ⟨G2, 0, none⟩) N N) N ((ls.set k ln).map (Value.int .i64)) := by
        rw [List.map_set]; exact olA
      have HZ2 : Hid (∀ z ∈ ls.set k ln, 0 ≤ z ∧ z ≤ 65535) := Lib.hid (fun z hz => by
        rcases List.mem_or_eq_of_mem_set hz with h | h
        · exact HZ.out z h
        · rw [h]; exact Hl2)
      clear C8 g9 o8 ol8 E8 C9 o9 ol9 gA E9 d1 f1 olA HZ
      go_wp2_with fail
      go_roundw
      case rel => exact ⟨k + 1, _, _, _, _, by omega, by go_num, EA, oA, olB, CA, HSt, HZ2⟩
      case measure => simp [intOf]; omega
    · obtain rfl : k = N := by omega
      have HB0 : Hid (BdS d cs ls 0 rest er) := Lib.hid (by
        obtain ⟨k1, k2, k3⟩ := HH.out
        refine ⟨k1, fun he => ?_, k3⟩
        obtain ⟨k4, k5⟩ := k2 he
        rw [HNN.out] at k4 k5
        exact ⟨k4, k5.1, k5⟩)
      have HD0 : Hid (er = false → DatOk wr G1 d cs 0) := Lib.hid (fun _ => ⟨fun i hi => by omega, fun i j _ hj => by omega⟩)
      have hll : ls.length = k := by have := ol4.1; simpa using this
      have Hll := Lib.hid hll
      have Hlt : G2 < wr.heap.size := (ol4.lt G2 rfl).2
      clear HH hll
      go_wp2_with fail
      go_loopw [8, 9, 40] (fun _ _ i wr => ∃ (j : Nat) (cs : List Value) (rest : List Int) (er : Bool), j ≤ k ∧ i = .int .i64 j ∧ Ext w wr ∧ wr.ownsRow G1 40 3 (.slice (some ⟨G1, 0, none⟩) k k) k cs ∧ wr.ownsRow G1 3 1 (.slice (some ⟨G2, 0, none⟩) k k) k (ls.map (Value.int .i64)) ∧ CuS wr Q rest er ∧ Hid (BdS d cs ls j rest er) ∧ Hid (er = false → DatOk wr G1 d cs j)) (fun _ _ i _ => k - (intOf i).toNat)
      case atStart => exact ⟨0, _, _, _, by omega, rfl, E4, o4, ol4, C4, HB0, HD0⟩
      case round =>
        obtain ⟨j, cs, rest, er, hj, rfl, E5, o5, ol5, C5, HB, HD⟩ := hrel
        clear o4 ol4 C4 HB0 HD0 E4 Hlt
        by_cases hlt2 : j < k
        · obtain ⟨b1, o1, hh, h1⟩ := (Sl.of_owns ol5).int hlt2
          simp only [Option.some.injEq, Addr.mk.injEq, and_true] at hh
          obtain ⟨rfl, rfl⟩ := hh
          have hz := HZ.out (nth ls j) (by rw [nth_eq _ _ (by rw [Hll.out]; exact hlt2)]; exact List.getElem_mem _)
          obtain ⟨m, hm⟩ := Int.eq_ofNat_of_zero_le hz.1
          rw [hm] at h1 hz
          rw [Nat.zero_add] at h1
          have Hm := Lib.hid hm
          have hcl : cs.length = k * 3 := o5.1
          have Hcl := Lib.hid (show j * 3 + 2 < cs.length by omega)
          have HjN := Lib.hid (show j < cNum d by rw [← HNN.out]; exact hlt2)
          have ht := fun s => take_any Q m s rest er wr (by omega) C5
          have HT := Lib.hid ht
          have hG1 : G1 ≤ wr.heap.size := Nat.le_of_lt (o5.lt G1 rfl).2
          obtain ⟨arr, hqa⟩ := C5.blk
          have Hqa := Lib.hid hqa
          clear hm hcl ht hqa
          go_wp2_with fail
          refine (HT.out _).mono ?_
          rintro e w6 ⟨a6, c6, rfl, own6, C6, g6⟩
          have E6 : Ext w w6 := Ext.grown E5 g6 (fun q hq => by cases hq; omega)
          have o6 := C5.keep g6 o5 (by decide)
          have ol6 := C5.keep g6 ol5 (by decide)
          obtain ⟨u2, d2, -⟩ := owns_at o6 (j := j * 3 + 2) (by omega)
          have f2 := o6.frozenAt (j * 3 + 2)
          obtain ⟨o7, g7⟩ := o6.stored (j * 3 + 2) (.slice a6 m c6)
          obtain ⟨arr2, hB5⟩ : ∃ arr2, w6.heap[G1]? = some (.cells arr2 40 (0, 0)) := by
            rcases id o6.2 with ⟨hv, -⟩ | ⟨g, cap, cur, hv, -, p1, -⟩
            · cases hv
            · simp at hv; obtain ⟨rfl, -⟩ := hv; exact ⟨cur, p1⟩
          have C7 := C6.own g7 o6 (by omega)
          have ol7 := ol6.kept g7 (by rcases own_ne_blk' ol6 o6 (by decide) with h | h; exact .inl h; exact .inr h)
          have E7 : Ext w (w6.setCell ⟨G1, j * 3 + 2, none⟩ (.slice a6 m c6)) := Ext.grown E6 g7 (fun q hq => by cases hq; omega)
          have HB2 := Lib.hid (BdS.step (v := .slice a6 m c6) HB.out HjN.out Hm.out)
          have HD2 := Lib.hid (DatOk.step (ls := []) HB.out HjN.out Hm.out HD.out g6 Hqa.out (by decide) own6 hG1 g7 hB5 Hcl.out)
          clear own6 C5 C6 g6 o5 ol5 o6 ol6 g7 hB5 E5 E6 HB HD h1
          go_wp2_with fail
          go_roundw
          case rel => exact ⟨j + 1, _, _, _, by omega, by go_num, E7, o7, ol7, C7, HB2, HD2⟩
          case measure => simp [intOf]; omega
        · obtain rfl : j = k := by omega
          cases er with
          | true =>
            obtain ⟨x, s, hC⟩ := C5
            obtain ⟨-, m0, m1, -, -⟩ := bx2 hC
            have hnf := HB.out.2.2 rfl
            have HNF := Lib.hid hnf
            clear hnf hC
            go_wp2_with fail
            refine wp_region_inv2 (by kernel_rfl) [(2, 3), (3, 4), (52, 0), (53, 1), (54, 2)] [[], [], [1], [0], [0, 1, 2, 3]] (fun i own ys wx => match i with | 0 => own = .slice (some ⟨G1, 0, none⟩) j j | 1 => own = .pointer (some ⟨Q, 1, none⟩) | 2 => own = .iface 70 (.agg #[.string s]) | 3 => own = .slice (some ⟨G1, 0, none⟩) j j | 4 => own = .iface 70 (.agg #[.string s]) | _ => True) (fun kx wx => Ext wr wx) (by kernel_rfl) (by kernel_rfl) (by kernel_rfl) ?g0_r1 ?gop_r1 ?gend_r1
            case g0_r1 => exact Ext.drewN _ 1
            case gop_r1 =>
              refine ⟨?_, ?_, ?_, ?_, ?_, trivial⟩
              · intro kx xs wx hk hG hD hI Qo Kx hK hQo
                clear hD
                clear hI
                simp only [patchS, Nat.reduceAdd, Nat.reduceEqDiff, ↓reduceIte] at hQo ⊢
                go_wp2
                exact hK.out _ _ ⟨rfl, hG, fun _ _ _ _ _ _ h => h⟩
              · intro kx xs wx hk hG hD hI Qo Kx hK hQo
                clear hD
                clear hI
                simp only [patchS, Nat.reduceAdd, Nat.reduceEqDiff, ↓reduceIte] at hQo ⊢
                go_wp2
                exact hK.out _ _ ⟨rfl, hG, fun _ _ _ _ _ _ h => h⟩
              · intro kx xs wx hk hG hD hI Qo Kx hK hQo
                have d1 : (xs 1) = .pointer (some ⟨Q, 1, none⟩) := hD 1 rfl
                clear hD
                clear hI
                simp only [patchS, Nat.reduceAdd, Nat.reduceEqDiff, ↓reduceIte] at hQo ⊢
                generalize xs 1 = y1 at *
                subst d1
                have k0 := cell_ext hG m1
                go_wp2
                exact hK.out _ _ ⟨rfl, hG, fun _ _ _ _ _ _ h => h⟩
              · intro kx xs wx hk hG hD hI Qo Kx hK hQo
                have d0 : (xs 0) = .slice (some ⟨G1, 0, none⟩) j j := hD 0 rfl
                clear hD
                clear hI
                simp only [patchS, Nat.reduceAdd, Nat.reduceEqDiff, ↓reduceIte] at hQo ⊢
                generalize xs 0 = y0 at *
                subst d0
                go_wp2
                exact hK.out _ _ ⟨rfl, hG, fun _ _ _ _ _ _ h => h⟩
              · intro kx xs wx hk hG hD hI Qo Kx hK hQo
                have d2 : (xs 2) = .iface 70 (.agg #[.string s]) := hD 2 rfl
                clear hD
                clear hI
                simp only [patchS, Nat.reduceAdd, Nat.reduceEqDiff, ↓reduceIte] at hQo ⊢
                generalize xs 2 = y2 at *
                subst d2
                go_wp2
                exact hK.out _ _ ⟨rfl, hG, fun _ _ _ _ _ _ h => h⟩
            intro xs wx hV hG
            have d0 : (xs 0) = .slice (some ⟨G1, 0, none⟩) j j := hV 0 (by decide)
            have d1 : (xs 1) = .pointer (some ⟨Q, 1, none⟩) := hV 1 (by decide)
            have d2 : (xs 2) = .iface 70 (.agg #[.string s]) := hV 2 (by decide)
            have d3 : (xs 3) = .slice (some ⟨G1, 0, none⟩) j j := hV 3 (by decide)
            have d4 : (xs 4) = .iface 70 (.agg #[.string s]) := hV 4 (by decide)
            clear hV
            simp only [patchS, Nat.reduceAdd, Nat.reduceEqDiff, ↓reduceIte]
            generalize xs 0 = y0 at *
            generalize xs 1 = y1 at *
            generalize xs 2 = y2 at *
            generalize xs 3 = y3 at *
            generalize xs 4 = y4 at *
            replace hG : Ext wr wx := hG
            clear d0 d1 d2
            subst d3
            subst d4
            go_wp2
            go_ret2
            exact .inr ⟨HNF.out, _, s, rfl, E5.trans hG⟩
          | false =>
            obtain ⟨a', n', c', hC, -⟩ := C5
            obtain ⟨-, m0, m1, -, -⟩ := bx2 hC
            clear hC
            go_wp2_with fail
            refine wp_region_inv2 (by kernel_rfl) [(2, 3), (3, 4), (52, 0), (53, 1), (54, 2)] [[], [], [1], [0], [0, 1, 2, 3]] (fun i own ys wx => match i with | 0 => own = .slice (some ⟨G1, 0, none⟩) j j | 1 => own = .pointer (some ⟨Q, 1, none⟩) | 2 => own = .nilIface | 3 => own = .slice (some ⟨G1, 0, none⟩) j j | 4 => own = .nilIface | _ => True) (fun kx wx => Ext wr wx) (by kernel_rfl) (by kernel_rfl) (by kernel_rfl) ?g0_r2 ?gop_r2 ?gend_r2
            case g0_r2 => exact Ext.drewN _ 1
            case gop_r2 =>
              refine ⟨?_, ?_, ?_, ?_, ?_, trivial⟩
              · intro kx xs wx hk hG hD hI Qo Kx hK hQo
                clear hD
                clear hI
                simp only [patchS, Nat.reduceAdd, Nat.reduceEqDiff, ↓reduceIte] at hQo ⊢
                go_wp2
                exact hK.out _ _ ⟨rfl, hG, fun _ _ _ _ _ _ h => h⟩
              · intro kx xs wx hk hG hD hI Qo Kx hK hQo
                clear hD
                clear hI
                simp only [patchS, Nat.reduceAdd, Nat.reduceEqDiff, ↓reduceIte] at hQo ⊢
                go_wp2
                exact hK.out _ _ ⟨rfl, hG, fun _ _ _ _ _ _ h => h⟩
              · intro kx xs wx hk hG hD hI Qo Kx hK hQo
                have d1 : (xs 1) = .pointer (some ⟨Q, 1, none⟩) := hD 1 rfl
                clear hD
                clear hI
                simp only [patchS, Nat.reduceAdd, Nat.reduceEqDiff, ↓reduceIte] at hQo ⊢
                generalize xs 1 = y1 at *
                subst d1
                have k0 := cell_ext hG m1
                go_wp2
                exact hK.out _ _ ⟨rfl, hG, fun _ _ _ _ _ _ h => h⟩
              · intro kx xs wx hk hG hD hI Qo Kx hK hQo
                have d0 : (xs 0) = .slice (some ⟨G1, 0, none⟩) j j := hD 0 rfl
                clear hD
                clear hI
                simp only [patchS, Nat.reduceAdd, Nat.reduceEqDiff, ↓reduceIte] at hQo ⊢
                generalize xs 0 = y0 at *
                subst d0
                go_wp2
                exact hK.out _ _ ⟨rfl, hG, fun _ _ _ _ _ _ h => h⟩
              · intro kx xs wx hk hG hD hI Qo Kx hK hQo
                have d2 : (xs 2) = .nilIface := hD 2 rfl
                clear hD
                clear hI
                simp only [patchS, Nat.reduceAdd, Nat.reduceEqDiff, ↓reduceIte] at hQo ⊢
                generalize xs 2 = y2 at *
                subst d2
                go_wp2
                exact hK.out _ _ ⟨rfl, hG, fun _ _ _ _ _ _ h => h⟩
            intro xs wx hV hG
            have d0 : (xs 0) = .slice (some ⟨G1, 0, none⟩) j j := hV 0 (by decide)
            have d1 : (xs 1) = .pointer (some ⟨Q, 1, none⟩) := hV 1 (by decide)
            have d2 : (xs 2) = .nilIface := hV 2 (by decide)
            have d3 : (xs 3) = .slice (some ⟨G1, 0, none⟩) j j := hV 3 (by decide)
            have d4 : (xs 4) = .nilIface := hV 4 (by decide)
            clear hV
            simp only [patchS, Nat.reduceAdd, Nat.reduceEqDiff, ↓reduceIte]
            generalize xs 0 = y0 at *
            generalize xs 1 = y1 at *
            generalize xs 2 = y2 at *
            generalize xs 3 = y3 at *
            generalize xs 4 = y4 at *
            replace hG : Ext wr wx := hG
            clear d0 d1 d2
            subst d3
            subst d4
            go_wp2
            go_ret2
            obtain ⟨r0, l0, l1⟩ := HB.out.2.1 rfl
            have hD := HD.out (by first | rfl | trivial)
            have hN := HNN.out
            have o6 := owns_ext o5 hG
            refine .inl ⟨⟨by have := l1.1; omega, l1.1, by rw [← hN]; exact l0⟩, some ⟨G1, 0, none⟩, j, by rw [← hN]; rfl, ⟨cs, ?_, fun i hi => ?_, fun i j hij hj => hD.2 i j hij (by rw [cL_len] at hj; rw [hN]; exact hj)⟩, E5.trans hG⟩
            · rw [cL_len, ← hN]
              exact owns_mono o6 (by omega)
            · rw [cL_len] at hi
              rw [cL_get d hi]
              obtain ⟨k0, k1, -⟩ := l1.2 i hi
              obtain ⟨a', c', k2, k3⟩ := hD.1 i (by rw [hN]; exact hi)
              exact ⟨a', c', k0, k1, k2, owns_mono (owns_ext k3 hG) (by omega)⟩
end Go.Proofs.YtpjjadmjdafkeaaDoor
