/- FnInterleave: the walk of the law. -/
import Derived.Test.YtfcgnhgocdoimaaLawC1
import Derived.Test.YtfcgnhgocdoimaaM1
namespace Go.Proofs.Ytfcgnhgocdoimaa
open Go.RowKit
set_option maxHeartbeats 400000

theorem inter_yes (n d : Nat) (h1 : n ≤ 100) (h2 : 1 ≤ d) (h3 : d ≤ 8) : inter n d = cols n d d ∧ (cols n d d).length = n ∧ ∀ j, j < n → ∃ p : Nat, nth (cols n d d) j = p ∧ p < n ∧ posOf n d p = j ∧ (0 < j → ¬ (nth (cols n d d) (j - 1) < nth (cols n d d) j ∧ nth (cols n d d) j ≠ nth (cols n d d) (j - 1) + d ∧ nth (cols n d d) (j - 1) + d < n)) := by
  obtain ⟨c1, c2⟩ := chkL_spec n d _ 0 0 (chk_one n d h1 h2 h3)
  rw [Nat.zero_add] at c1
  refine ⟨by rw [show inter n d = cols (n : Int).toNat (d : Int).toNat (d : Int).toNat from if_pos ⟨by omega, by omega, by omega, by omega⟩]; simp, c1, fun j hj => ?_⟩
  obtain ⟨k1, k2, k3, k4⟩ := c2 j (by omega)
  refine ⟨(nth (cols n d d) j).toNat, by omega, by omega, by omega, fun h => ?_⟩
  have := k4 (by omega)
  cases j with
  | zero => omega
  | succ j => simpa [nth] using this
theorem cols_one (n : Nat) : cols n 1 1 = (List.range n).map fun i : Nat => (i : Int) := by
  simp [cols, col, cnt]

theorem nthB_rep (n v : Nat) : nthB (List.replicate n false) v = false := by
  simp only [nthB, List.getD_eq_getElem?_getD, List.getElem?_replicate]
  split <;> rfl
set_option maxRecDepth 100000 in
theorem law_FnInterleave (a : Option Addr) (c n : Nat) (zs : List Int) (w : World) (hn0 : n ≤ c ∧ c ≤ maxLen) (sl : Sl w a n (zs.map (Value.int .u8))) (wf : ∀ z ∈ zs, (Lit.int .u8 z).wf = true) :
    Calls Try.prog 10 #[.slice a n c] w fun e w' => e = .returned (.bool true) ∧ Ext w w' := by
  have hn : n ≤ c ∧ c ≤ 9223372036854775807 := ⟨hn0.1, hn0.2⟩
  clear hn0
  have hz := Lib.hid (byte_range wf)
  clear wf
  by_cases hbig : 1048576 < n
  · go_enter Try.func10, Try.ntmps10
    go_wp2
    go_ret
    refine ⟨rfl, ?_⟩
    (repeat (first | with_reducible exact Below.refl _ _ | assumption | with_reducible refine below_drewN ?_ _ | with_reducible refine Below.drew ?_ | with_reducible refine Below.setCell ?_ (by simp <;> omega) _ | with_reducible refine Ext.trans ?_ (Ext.alloc _ _)))
  go_enter Try.func10, Try.ntmps10
  go_wp2_with fail
  refine (DrawInterleave_any a c n zs _ hn.1 hn.2 (sl.ext (by (repeat (first | with_reducible exact Below.refl _ _ | assumption | with_reducible refine below_drewN ?_ _ | with_reducible refine Below.drew ?_ | with_reducible refine Below.setCell ?_ (by simp <;> omega) _ | with_reducible refine Ext.trans ?_ (Ext.alloc _ _))))) hz.out).mono ?_
  rintro e w1 ⟨x, y, rfl, hx0, hx1, hy0, hy1, e1⟩
  have E1 : Ext w w1 := by refine Ext.trans ?_ e1; (repeat (first | with_reducible exact Below.refl _ _ | assumption | with_reducible refine below_drewN ?_ _ | with_reducible refine Below.drew ?_ | with_reducible refine Below.setCell ?_ (by simp <;> omega) _ | with_reducible refine Ext.trans ?_ (Ext.alloc _ _)))
  clear sl hz e1
  go_wp2_with fail
  refine (impl_Interleave_any x y _).mono ?_
  rintro e w2 ⟨v2, rfl, own2, e2⟩
  obtain ⟨a2, c2, rfl⟩ := owns_form own2
  have s2 := Sl.of_owns own2
  have E2 := E1.trans e2
  clear own2 E1 e2
  go_wp2_with fail
  refine (spec_Interleave_any x y _).mono ?_
  rintro e w3 ⟨v3, rfl, own3, e3⟩
  obtain ⟨a3, c3, rfl⟩ := owns_form own3
  have s3 := Sl.of_owns own3
  have E3 := E2.trans e3
  have s2' := s2.ext e3
  clear own3 E2 e3 s2
  go_wp2_with fail
  have hl : (inter x y).length ≤ 800 := inter_len x y
  refine (sameInts_any a2 a3 c2 c3 _ _ _ _ _ (by omega) (by omega) s2' s3).mono ?_
  rintro e w4 ⟨he, m4, rfl⟩
  rw [decide_eq_true rfl] at he
  subst he
  have E4 : Ext w (w3.drewN m4) := below_drewN E3 m4
  have s4 := s2'.drewN m4
  clear s2' s3 E3
  generalize w3.drewN m4 = w4 at *
  by_cases hv : 0 ≤ x ∧ x ≤ 100 ∧ 1 ≤ y ∧ y ≤ 8
  · obtain ⟨hv1, hv2, hv3, hv4⟩ := hv
    obtain ⟨k, rfl⟩ := Int.eq_ofNat_of_zero_le hv1
    obtain ⟨d, rfl⟩ := Int.eq_ofNat_of_zero_le (show 0 ≤ y by omega)
    obtain ⟨hs, hlen, hnth⟩ := inter_yes k d (by omega) (by omega) (by omega)
    rw [hs, hlen] at s4
    rw [hs, hlen]
    clear hs hl
    have Hnth := Lib.hid hnth
    clear hnth hlen
    generalize cols k d d = L at *
    go_wp2_with (at_make; refine wpList_mk _ rfl _ _ 22 rfl 4 (.bool false) 1 Try.underlying22 info_bool rfl _ k rfl rfl rfl (by omega) (by omega) ?_; intro w5 hown hgrow)
    have E5 : Ext w w5 := E4.trans (Ext.grown (Below.refl _ _) hgrow (by simp))
    have s5 := s4.ext (Ext.grown (Below.refl _ _) hgrow (by simp))
    have hb5 : w4.heap.size ≤ w5.heap.size := hgrow.size
    obtain ⟨B, hB⟩ : ∃ B, B = w4.heap.size := ⟨_, rfl⟩
    rw [← hB] at hown hb5 ⊢
    have hlist : List.replicate k (Value.bool false) = (List.replicate k false).map Value.bool := by simp
    rw [hlist] at hown
    have hab : ∀ x, a2 = some x → 0 < k → x.block ≠ B := by
      intro x hx hk0
      obtain ⟨b1, o1, h1, h2⟩ := s4.2 0 (by omega)
      rw [h1] at hx
      simp only [Option.some.injEq] at hx
      subst hx
      have := World.block_lt_of_cell? _ _ h2
      simp at this ⊢
      omega
    have hBw : w.heap.size ≤ B := by rw [hB]; exact E4.size
    have Hab := Lib.hid hab
    clear hab hlist hB s4 E4 hgrow
    go_loopw [7] (fun i wr => ∃ (q : Nat) (S : List Bool), q ≤ k ∧ i = .int .i64 q ∧ Ext w wr ∧ Sl wr a2 k (L.map (Value.int .i64)) ∧ wr.ownsRow B 4 1 (.slice (some ⟨B, 0, none⟩) k k) k (S.map Value.bool) ∧ Hid (∀ v, nthB S v = true → posOf k d v < q)) (fun i _ => k - (intOf i).toNat)
    case atStart => exact ⟨0, List.replicate k false, by omega, rfl, E5, s5, hown, Lib.hid (fun v hv => by rw [nthB_rep] at hv; cases hv)⟩
    case round =>
      obtain ⟨q, S, hq, rfl, E6, s6, own6, hpos⟩ := hrel
      clear hown E5 s5
      by_cases hlt : q < k
      · obtain ⟨p, hp1, hp2, hp3, hp4⟩ := Hnth.out q hlt
        have s7 := Sl.of_owns own6
        obtain ⟨b1, o1, ha1, g1⟩ := s6.int hlt
        obtain ⟨b2, o2, hb1, g2⟩ := s7.bool hp2
        have hne := Hab.out ⟨b1, o1, none⟩ ha1 (by omega)
        simp only [Option.some.injEq, Addr.mk.injEq, and_true] at hb1
        obtain ⟨rfl, rfl⟩ := hb1
        have hfalse : nthB S p = false := by
          cases h : nthB S p with
          | false => rfl
          | true => have := hpos.out p h; omega
        rw [hp1] at g1
        rw [hfalse] at g2
        rw [Nat.zero_add] at g2
        have g3 := own6.frozenAt p
        have hset := own6.stored p (.bool true)
        have hlen := s7.bool_len
        have Hset := Lib.hid hset
        have Hp3 := Lib.hid hp3
        have Ha1 := Lib.hid ha1
        clear hset hp3 hfalse s7
        have hrel : ∀ wz, (∃ m, wz = wr.drewN m) → Ext w (wz.setCell ⟨B, p, none⟩ (.bool true)) ∧ Sl (wz.setCell ⟨B, p, none⟩ (.bool true)) a2 k (L.map (Value.int .i64)) ∧ ∃ (S' : List Bool), (wz.setCell ⟨B, p, none⟩ (.bool true)).ownsRow B 4 1 (.slice (some ⟨B, 0, none⟩) k k) k (S'.map Value.bool) ∧ (∀ v, nthB S' v = true → posOf k d v < q + 1) := by
          rintro wz ⟨m, rfl⟩
          have o7 := owns_drewN own6 m
          obtain ⟨o8, gr8⟩ := o7.stored p (.bool true)
          have s8 : Sl (wr.drewN m) a2 k (L.map (Value.int .i64)) := s6.drewN m
          refine ⟨Ext.grown (below_drewN E6 m) gr8 (by simp; omega), s8.grown gr8 (fun x hx => by simp; exact Hab.out x hx (by omega)), S.set p true, ?_, fun v hv => ?_⟩
          · rw [List.map_set]; exact o8
          · by_cases hvp : v = p
            · subst hvp; rw [Hp3.out]; omega
            · have := hpos.out v (by simpa [nthB, List.getElem?_set_ne (Ne.symm hvp)] using hv)
              omega
        have Hrel := Lib.hid hrel
        clear hrel own6 E6 hpos Hset Hp3 hlen
        have n1 : decide ((p : Int) < 0) = false := by simp
        have n2 : decide (k ≤ p) = false := by simp; omega
        have key : ∀ (wz : World), (∃ m, wz = wr.drewN m) → True := fun _ _ => trivial
        clear key
        subst ha1
        by_cases h0 : q = 0
        · have n3 : decide (0 < q) = false := by simp; omega
          clear hp4 h0 hp1
          go_wp2
          go_quiet (fail)
          go_wp2
          obtain ⟨e8, s8, S', o8, hS'⟩ := Hrel.out (wr.drewN nq) ⟨nq, rfl⟩
          go_roundw
          case rel => exact ⟨q + 1, S', by omega, by go_num, e8, s8, o8, Lib.hid hS'⟩
          case measure => simp [intOf]; omega
        · have n3 : decide (0 < q) = true := by simp; omega
          obtain ⟨pp, hp5, hp6, -, -⟩ := Hnth.out (q - 1) (by omega)
          rw [hp5, hp1] at hp4
          obtain ⟨b3, o3, ha3, g4⟩ := s6.int (show q - 1 < k by omega)
          simp only [Option.some.injEq, Addr.mk.injEq, and_true] at ha3
          obtain ⟨rfl, rfl⟩ := ha3
          rw [hp5] at g4
          have Hp4 := Lib.hid (hp4 (by omega))
          have i0 : (0 : Int) ≤ (q : Int) - 1 := by omega
          have i1 : ((q : Int) - 1).toNat = q - 1 := by omega
          clear hp4 h0 hp1 hp5 s6
          by_cases h1 : pp < p
          · have n4 : decide (pp < p) = true := by simp; omega
            by_cases h2 : (p : Int) = pp + d
            · have n5 : ((p : Int) != pp + d) = false := by simp; omega
              clear h2 Hp4
              go_wp2
              go_quiet (fail)
              go_wp2
              obtain ⟨e8, s8, S', o8, hS'⟩ := Hrel.out (wr.drewN nq) ⟨nq, rfl⟩
              go_roundw
              case rel => exact ⟨q + 1, S', by omega, by go_num, e8, s8, o8, Lib.hid hS'⟩
              case measure => simp [intOf]; omega
            · have n5 : ((p : Int) != pp + d) = true := by simp; omega
              have n6 : decide ((pp : Int) + d < k) = false := by
                have := Hp4.out
                simp; omega
              clear h2 Hp4
              go_wp2
              go_quiet (fail)
              go_wp2
              obtain ⟨e8, s8, S', o8, hS'⟩ := Hrel.out (wr.drewN nq) ⟨nq, rfl⟩
              go_roundw
              case rel => exact ⟨q + 1, S', by omega, by go_num, e8, s8, o8, Lib.hid hS'⟩
              case measure => simp [intOf]; omega
          · have n4 : decide (pp < p) = false := by simp; omega
            clear h1 Hp4
            go_wp2
            go_quiet (fail)
            go_wp2
            obtain ⟨e8, s8, S', o8, hS'⟩ := Hrel.out (wr.drewN nq) ⟨nq, rfl⟩
            go_roundw
            case rel => exact ⟨q + 1, S', by omega, by go_num, e8, s8, o8, Lib.hid hS'⟩
            case measure => simp [intOf]; omega
      · obtain rfl : q = k := by omega
        clear Hab own6 s6 hpos
        go_wp2_with fail
        refine (impl_Interleave_any (q : Int) 1 _).mono ?_
        rintro e w6 ⟨v6, rfl, own7, e7⟩
        obtain ⟨a6, c6, rfl⟩ := owns_form own7
        have s7 := Sl.of_owns own7
        have E7 := E6.trans e7
        clear own7 E6 e7
        rw [show inter (q : Int) 1 = (List.range q).map fun i : Nat => (i : Int) from by
          rw [show inter (q : Int) 1 = cols (q : Int).toNat (1 : Int).toNat (1 : Int).toNat from if_pos ⟨by omega, by omega, by omega, by omega⟩]
          simpa using cols_one q] at s7 ⊢
        rw [List.length_map, List.length_range] at s7 ⊢
        go_wp2_with fail
        go_loopw [9] (fun i wr => ∃ (j : Nat), j ≤ q ∧ i = .int .i64 j ∧ wr = w6) (fun i _ => q - (intOf i).toNat)
        case atStart => exact ⟨0, by omega, rfl, rfl⟩
        case round =>
          obtain ⟨j, hj, rfl, rfl⟩ := hrel
          by_cases hlt : j < q
          · obtain ⟨b1, o1, rfl, g1⟩ := s7.int hlt
            rw [show nth ((List.range q).map fun i : Nat => (i : Int)) j = (j : Int) from by simp [nth, hlt]] at g1
            go_wp2
            exact ⟨⟨j + 1, by omega, by go_num, trivial⟩, by simp [intOf]; omega⟩
          · obtain rfl : j = q := by omega
            go_wp2
            go_ret
            exact ⟨by simp, E7⟩
  · rw [show inter x y = [] from if_neg hv] at s4 ⊢
    clear s4
    have hb : (decide (x < 0) || decide (100 < x) || decide (y < 1) || decide (8 < y)) = true := by simp; omega
    go_wp2_with fail
    all_goals
      refine (alive_any _).mono ?_
      rintro e w5 ⟨rfl, e5⟩
      have E5 := E4.trans e5
      clear E4 e5
      go_wp2
      go_ret
      exact ⟨rfl, E5⟩
end Go.Proofs.Ytfcgnhgocdoimaa
