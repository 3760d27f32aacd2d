/- FnExactReadContainer: the program's ReadContainer returns what the reference's returns: the walk of the law. -/
import Derived.Test.YtpjjadmjdafkeaaDoorLawK6
import Derived.Test.YtpjjadmjdafkeaaDoorRi
import Derived.Test.YtpjjadmjdafkeaaDoorRj
import Derived.Test.YtpjjadmjdafkeaaDoorS2
namespace Go.Proofs.YtpjjadmjdafkeaaDoor
open Go.RowKit
set_option maxHeartbeats 1000000
theorem SEd.keptBy {w w' : World} {lo : Nat} {v : Value} {L : List Smp} {row : Option Nat} (h : SEd w lo v L) (g : w.grownBy w' row) (hr : ∀ q, row = some q → q < lo) : SEd w' lo v L := by
  have hk : ∀ {e s n : Nat} {u : Value} {xs : List Value}, w.ownsRow lo e s u n xs → w'.ownsRow lo e s u n xs := fun o => o.kept g (by
    rename_i u xs
    cases hu : u.ownBlock with
    | none => exact .inl rfl
    | some p => right; intro e; have h1 := (o.lt p hu).1; have h2 := hr p e.symm; omega)
  obtain ⟨cs, h1, h2, h3⟩ := h
  refine ⟨cs, hk h1, fun i hi => ?_, h3⟩
  obtain ⟨a', c', h4, h5, h6, h7⟩ := h2 i hi
  exact ⟨a', c', h4, h5, h6, hk h7⟩
theorem rcL_small {l : List Int} (hb : bys l) : ∀ x ∈ rcL l, x.2.2.length ≤ 65535 := by
  unfold rcL
  split
  · rename_i h
    intro x hx
    simp only [cL, List.mem_map, List.mem_range] at hx
    obtain ⟨i, hi, rfl⟩ := hx
    show (cD l i).length ≤ 65535
    rw [cD_len h.1 hi]
    have := cN_nn hb h.1 hi
    omega
  · intro x hx; simp at hx
theorem rcL_few (l : List Int) : (rcL l).length ≤ 100 := by
  unfold rcL
  split
  · rename_i h; rw [cL_len]; exact rcOk_num h
  · simp
set_option maxRecDepth 100000 in
set_option maxHeartbeats 4000000 in
theorem law_FnExactReadContainer (a : Option Addr) (c n : Nat) (l : List Int) (w : World) (hn0 : n ≤ c ∧ c ≤ maxLen) (r : Sl w a n (l.map (Value.int .u8))) (wf : ∀ z ∈ l, (Lit.int .u8 z).wf = true) (h0 : ∃ b, w.cell? ⟨0, 0, none⟩ = some (.iface 82 (.pointer (some b)))) :
    Calls Tryd.prog 4 #[.slice a n c] w fun e w' => e = .returned (.bool true) ∧ Ext w w' := by
  have hn : n ≤ c ∧ c ≤ 9223372036854775807 := ⟨hn0.1, hn0.2⟩
  clear hn0
  obtain ⟨b, h0⟩ := h0
  have hb := byte_range6 wf
  clear wf
  by_cases hbig : 1048576 < n
  · go_enter Tryd.func4, Tryd.ntmps4
    go_wp2
    go_ret
    refine ⟨rfl, ?_⟩
    (repeat (first | with_reducible exact Below.refl _ _ | assumption | with_reducible refine below_drewN ?_ _ | with_reducible refine Below.drew ?_ | with_reducible refine Below.setCell ?_ (by simp <;> omega) _ | with_reducible refine Ext.trans ?_ (Ext.alloc _ _)))
  have hI := fun (a' : Option Addr) (c' lo' : Nat) (wz : World) (o : wz.ownsRow lo' 5 1 (.slice a' n c') n (l.map (Value.int .u8))) (E : Ext w wz) =>
    impl_ReadContainer_ex b a' c' n l wz (cell_ext E h0) (by have := owns_cap o; unfold maxLen at this; exact this) (Sl.of_owns o) hb (fun y hy => (o.lt y.block (by rw [hy]; rfl)).2) (fun w' e => conv_own w' _ a' n c' l (owns_ext o e))
  have hS := fun (a' : Option Addr) (c' lo' : Nat) (wz : World) (o : wz.ownsRow lo' 5 1 (.slice a' n c') n (l.map (Value.int .u8))) =>
    spec_ReadContainer_any a' c' n l wz (by have := owns_cap o; unfold maxLen at this; exact this) (by omega) (Sl.of_owns o) hb
  unfold RcI at hI
  unfold RcR at hS
  have hL1 := rcL_small hb
  have hL2 := rcL_few l
  generalize rcL l = L at *
  generalize decide (rcOk l) = ok at *
  obtain ⟨k, hk⟩ : ∃ k, k = L.length := ⟨_, rfl⟩
  rw [← hk] at hL2
  simp only [← hk] at hI hS
  have HI := Lib.hid hI
  have HS := Lib.hid hS
  have HL1 := Lib.hid hL1
  have HL := Lib.hid (show ∀ x ∈ L, x.2.2.length < 2^45 from fun x hx => by have := hL1 x hx; omega)
  have Hk := Lib.hid hk
  have hok : (ok != ok) = false := by cases ok <;> rfl
  have hn45 : n < 2^45 := by omega
  clear hI hS hL1 hk hb h0
  go_enter Tryd.func4, Tryd.ntmps4
  -- the reference's answer
  go_wp2_with fail
  refine (toByteS_any a c n l _ hn45 (r.ext (by (repeat (first | with_reducible exact Below.refl _ _ | assumption | with_reducible refine below_drewN ?_ _ | with_reducible refine Below.drew ?_ | with_reducible refine Below.setCell ?_ (by simp <;> omega) _ | with_reducible refine Ext.trans ?_ (Ext.alloc _ _)))))).mono ?_
  rintro e w1 ⟨v1, rfl, own1, e1⟩
  obtain ⟨a1, c1, rfl⟩ := owns_form own1
  go_wp2_with fail
  refine (HS.out a1 c1 _ _ own1).mono ?_
  rintro e w2 ⟨a2, c2, rfl, S2, e2⟩
  have E2 : Ext w w2 := by refine Ext.trans ?_ (e1.trans e2); (repeat (first | with_reducible exact Below.refl _ _ | assumption | with_reducible refine below_drewN ?_ _ | with_reducible refine Below.drew ?_ | with_reducible refine Below.setCell ?_ (by simp <;> omega) _ | with_reducible refine Ext.trans ?_ (Ext.alloc _ _)))
  have P2 := Lib.hid (fun (wz : World) (e : Ext w2 wz) => (S2.ext e).toSP)
  clear own1 e1 e2 S2
  -- the argument's copy
  go_wp2_with fail
  refine (toByteS_any a c n l _ hn45 (r.ext E2)).mono ?_
  rintro e w4 ⟨v4, rfl, own4, e4⟩
  obtain ⟨a4, c4, rfl⟩ := owns_form own4
  have H4 := Lib.hid (show ∀ k, (Value.slice a4 n c4).ownBlock = some k → w2.heap.size ≤ k ∧ k < w4.heap.size from fun k hk => own4.lt k hk)
  have E4 := E2.trans e4
  -- the program's answer
  go_wp2_with fail
  refine (HI.out a4 c4 _ _ own4 E4).mono ?_
  rintro e w5 ⟨a5, c5, rfl, S5, e5⟩
  have F5 := e4.trans e5
  have own5 := owns_ext own4 e5
  have h24 := e4.size
  have h45 := e5.size
  clear own4 e4 e5 E4
  go_wp2_with fail
  have sp5 := S5.toSE.toSP
  refine (eqSampleS_same a5 a2 c5 c2 k L _ (by omega) HL.out sp5 (P2.out _ F5)).mono ?_
  rintro e w6 ⟨rfl, e6⟩
  have F6 := F5.trans e6
  have S6 := S5.ext e6
  have own6 := owns_ext own5 e6
  clear sp5 S5 own5 F5 e6
  go_wp2_with fail
  refine (toByteS_any a c n l _ hn45 (r.ext (E2.trans F6))).mono ?_
  rintro e w8 ⟨v8, rfl, own8, e8⟩
  obtain ⟨a8, c8, rfl⟩ := owns_form own8
  have own7 := owns_ext own6 e8
  have F8 := F6.trans e8
  have S8 := S6.ext e8
  clear own6 F6 S6 e8
  go_wp2_with fail
  refine (eqByteS_same a4 a8 c4 c8 n l _ (by omega) (Sl.of_owns own7) (Sl.of_owns own8)).mono ?_
  rintro e w9 ⟨rfl, d9, rfl⟩
  have x9 : Ext w8 (w8.drewN d9) := Ext.drewN _ _
  have own9 := owns_ext own7 x9
  have F9 := F8.trans x9
  have S9 := S8.ext x9
  generalize w8.drewN d9 = w9 at *
  clear own7 own8 F8 S8 x9
  -- the argument is overwritten
  go_wp2_with fail
  refine (markByteS_any (.slice a4 n c4) n _ 1 _ _ (by omega) (by omega) (by omega) own9).mono ?_
  rintro e w10 ⟨rfl, -, g10⟩
  have hd9 : decide ((1 : Int) + n < 0) = false := by simp; omega
  have F10 : Ext w2 w10 := Ext.grown F9 g10 (fun k hk => (H4.out k hk).1)
  have S10 := S9.keptBy g10 (fun q hq => (H4.out q hq).2)
  clear own9 F9 S9 g10
  go_wp2_with fail
  have sp10 := S10.toSE.toSP
  refine (eqSampleS_same a5 a2 c5 c2 k L _ (by omega) HL.out sp10 (P2.out _ F10)).mono ?_
  rintro e w11 ⟨rfl, e11⟩
  have F11 := F10.trans e11
  obtain ⟨A, ll, cc, D, hll, R11⟩ := (S10.ext e11).toMk
  rw [← Hk.out] at D hll R11
  have hll2 : ∀ i, i < k → ll i ≤ 65535 := fun i hi => by
    rw [hll i hi, sget_eq L i (by rw [← Hk.out]; exact hi)]
    exact HL1.out _ (List.getElem_mem _)
  have HD := Lib.hid D
  have Hll := Lib.hid hll2
  clear sp10 F10 S10 e11 hll hll2 D
  -- the answer is overwritten
  go_wp2_with fail
  refine (markSampleS_ex _ _ k A ll cc _ (by omega) Hll.out HD.out R11).mono ?_
  rintro e w12 ⟨rfl, R12, T12⟩
  have F12 : Ext w2 w12 := Ext.tch F11 T12 h24
  have hkk : (((kA ll k : Nat) : Int) != ((kA ll k : Nat) : Int)) = false := by simp
  have hkn : decide (((kA ll k : Nat) : Int) < 0) = false := by simp
  clear R11 F11 T12
  go_wp2_with fail
  have hH := fun (wz : World) (r : MkR wz w4.heap.size (.slice a5 k c5) k A ll cc k) => heldSampleS_ex _ _ k A ll cc wz (by omega) Hll.out r
  generalize ((kA ll k : Nat) : Int) = KA at *
  have HH := Lib.hid hH
  clear hH
  refine (HH.out _ R12).mono ?_
  rintro e w13 ⟨rfl, e13⟩
  have F13 := F12.trans e13
  have R13 := R12.ext e13
  clear F12 R12 e13
  go_wp2_with fail
  refine (toByteS_any a c n l _ hn45 (r.ext (E2.trans F13))).mono ?_
  rintro e w14 ⟨v14, rfl, own14, e14⟩
  obtain ⟨a14, c14, rfl⟩ := owns_form own14
  have F14 := F13.trans e14
  go_wp2_with fail
  refine (HI.out a14 c14 _ _ own14 (E2.trans F14)).mono ?_
  rintro e w15 ⟨a15, c15, rfl, S15, e15⟩
  have F15 := F14.trans e15
  have R15 := R13.ext (e14.trans e15)
  clear F13 R13 e14 F14 e15 own14
  have sp15 := S15.toSE.toSP
  go_wp2_with fail
  refine (eqSampleS_same a15 a2 c15 c2 k L _ (by omega) HL.out sp15 (P2.out _ F15)).mono ?_
  rintro e w16 ⟨rfl, e16⟩
  have F16 := F15.trans e16
  have R16 := R15.ext e16
  clear F15 R15 e16 sp15 S15
  go_wp2_with fail
  refine (HH.out _ R16).mono ?_
  rintro e w17 ⟨rfl, e17⟩
  go_wp2
  go_ret
  exact ⟨rfl, E2.trans (F16.trans e17)⟩
end Go.Proofs.YtpjjadmjdafkeaaDoor
