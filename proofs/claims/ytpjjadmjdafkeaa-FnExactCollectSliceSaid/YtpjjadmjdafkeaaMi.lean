/- MissingNumbers: what it returns; the program's and the reference's. -/
import Derived.Test.YtpjjadmjdafkeaaQ1
import Derived.Test.YtpjjadmjdafkeaaA2
import Derived.Maps.OwnSet
namespace Go.Proofs.Ytpjjadmjdafkeaa
open Go.RowKit Go.Maps
set_option maxHeartbeats 400000
/-- The numbers of packets. -/
def nums (L : List Pkt) : List Int := L.map Pkt.num
theorem nums_len (L : List Pkt) : (nums L).length = L.length := by simp [nums]
theorem nums_take (L : List Pkt) (k : Nat) (h : k < L.length) : nums (L.take (k + 1)) = nums (L.take k) ++ [(kget L k).num] := by
  rw [List.take_succ_eq_append_getElem h, kget_eq L k h]
  simp only [nums, List.map_append, List.map_cons, List.map_nil]
theorem contains_snoc (xs : List Int) (x z : Int) : (xs ++ [x]).contains z = (xs.contains z || (x == z)) := by
  by_cases h : z = x
  · subst h; simp
  · have h2 : (x == z) = false := by simp; exact fun e => h e.symm
    rw [h2]
    simp [h]
/-- The numbers of m ones from lo on that are not in N. -/
def misL (N : List Int) (lo : Int) (m : Nat) : List Int := ((List.range m).map (fun i : Nat => lo + (i : Int))).filter (fun n => !(N.contains n))
theorem misL_len (N : List Int) (lo : Int) (m : Nat) : (misL N lo m).length ≤ m := by
  unfold misL
  refine Nat.le_trans (List.length_filter_le _ _) ?_
  simp
theorem misL_yes {N : List Int} {lo : Int} {m : Nat} (h : N.contains (lo + (m : Int)) = true) : misL N lo (m + 1) = misL N lo m := by
  simp only [misL, List.range_succ, List.map_append, List.filter_append, List.map_cons, List.map_nil]
  rw [List.filter_cons]
  simp only [h]
  simp
theorem misL_no {N : List Int} {lo : Int} {m : Nat} (h : N.contains (lo + (m : Int)) = false) : misL N lo (m + 1) = misL N lo m ++ [lo + (m : Int)] := by
  simp only [misL, List.range_succ, List.map_append, List.filter_append, List.map_cons, List.map_nil]
  rw [List.filter_cons]
  simp only [h]
  simp
/-- What MissingNumbers returns. -/
def miss (L : List Pkt) (lo hi : Int) : List Int := if 0 ≤ lo ∧ hi ≤ 9999 then misL (nums L) lo (hi - lo + 1).toNat else []
theorem miss_len (L : List Pkt) (lo hi : Int) : (miss L lo hi).length ≤ 10000 := by
  unfold miss
  split
  · refine Nat.le_trans (misL_len _ _ _) ?_
    omega
  · simp
/-- The map D has just the keys of N. -/
def Seen (D : DataW Unit) (N : List Int) : Prop := IsMap D ∧ ∀ z : Int, D.atKey (.int .i64 z) (.lit (.bool false)) = .lit (.bool (N.contains z))
theorem Seen.nil : Seen (.map []) [] := ⟨isMap_empty, fun z => rfl⟩
theorem Seen.snoc {D : DataW Unit} {N : List Int} (h : Seen D N) (x : Int) : Seen (D.put (.int .i64 x) (.lit (.bool true))) (N ++ [x]) := by
  refine ⟨h.1.put _ _, fun z => ?_⟩
  rw [contains_snoc]
  by_cases e : z = x
  · subst e
    rw [atKey_put_same h.1 ?_]
    · simp
    · simp [WideAt.IsKeyLit]
  · rw [atKey_put_other (by simpa using e), h.2 z]
    have h2 : (x == z) = false := by simp; exact fun e' => e e'.symm
    rw [h2]; simp
theorem plainElem_bool_inv {H : Type} {P : Program} {e : TypeId} (he : P.underlying e = some .bool) {v : Value} {z : DataW H × List MemPlace} (h : plainElem P e v = some z) : ∃ x, v = .bool x ∧ z = (.lit (.bool x), []) := by
  unfold plainElem at h
  rw [he] at h
  cases v <;> simp at h
  obtain rfl := h
  exact ⟨_, rfl, rfl⟩
/-- m[k] without ok, elements of type bool, the call's own map. -/
theorem wpList_lookup_own_bool {H : Type} {P : Program} (w : World) {ops : Array Oper} {rest : List Oper} {o : Oper} {a : Act} {Q : Exit → Act → World → Prop}
    (hg : o.guard = none) (m x : Operand) (t : TypeId) (hop : o.op = Op.lookup t m x false)
    (k e : TypeId) (K : Keyed P k) (ht : P.underlying t = some (.map k e)) (he : P.underlying e = some .bool) (hz : (zeroValue e).run P w = .ok (.bool false) w) (b n : Nat) (D : DataW H)
    (hm : a.eval m = .map (some b)) (hown : w.ownsMap P k (plainElem P e) b n D) (key : Value) (kl : Lit) (hx : a.eval x = key) (hkey : keyOf P k key = some kl) (c : Bool) (hc : D.atKey kl (.lit (.bool false)) = .lit (.bool c))
    (hK : wpList P ops Q rest (a.put o.dst (.bool c)) w) :
    wpList P ops Q (o :: rest) a w := by
  refine wpList_plain hg fun K' hK' => ?_
  obtain ⟨v, ps, hrun, hv⟩ := hown.lookup K ht hz (plainElem_bool he false) hkey
  obtain ⟨d, rfl, hd⟩ := plainElem_bool_inv he hv
  simp only [Prod.mk.injEq] at hd
  rw [hc] at hd
  have hd1 : c = d := by simpa using hd.1
  subst hd1
  unfold Oper.wp
  simp [execOp, hop, hm, hx, hrun, Result.andThen]
  exact hK' _ _ hK
theorem wf_small {z : Int} (h1 : -1099511627776 ≤ z) (h2 : z ≤ 1099511627776) : (Lit.int .i64 z).wf = true := by
  have a : IntKind.i64.min = -9223372036854775808 := rfl
  have b : IntKind.i64.max = 9223372036854775807 := rfl
  simp only [Lit.wf, a, b, Bool.and_eq_true, decide_eq_true_eq]
  omega
/-- A row is no map. -/
theorem own_ne_map {H : Type} {P : Program} {k : TypeId} {R : Value → Option (DataW H × List MemPlace)} {w : World} {b m base e size n : Nat} {v : Value} {xs : List Value} {D : DataW H} (h : w.ownsRow base e size v n xs) (hm : w.ownsMap P k R b m D) : some b ≠ v.ownBlock := by
  obtain ⟨es, clock, hb, -⟩ := hm
  rcases h.2 with ⟨rfl, -⟩ | ⟨g, cap, cur, rfl, -, p1, -⟩
  · simp [Value.ownBlock]
  · intro he
    simp [Value.ownBlock] at he
    subst he
    rw [p1] at hb
    simp at hb
theorem keyed_int : Keyed Try.prog 3 := int_keyed Try.underlying3
theorem zero_bool (w : World) : (zeroValue 4).run Try.prog w = .ok (.bool false) w := by kernel_rfl
theorem miss_map_snoc (xs : List Int) (x : Int) : (xs ++ [x]).map (Value.int .i64) = xs.map (Value.int .i64) ++ [.int .i64 x] := by simp
set_option maxRecDepth 100000 in
theorem impl_MissingNumbers_yes (a : Option Addr) (c n : Nat) (L : List Pkt) (lo hi : Int) (w : World) (hn : n < 2^40) (r : KP w a n L) (wf : ∀ x ∈ L, (Lit.int .i64 x.num).wf = true) (h1 : 0 ≤ lo) (h2 : hi ≤ 9999) (M : Nat) (hM : M = (hi - lo + 1).toNat) :
    Calls Try.prog 34 #[.slice a n c, .int .i64 lo, .int .i64 hi] w fun e w' => ∃ v, e = .returned v ∧ w'.ownsRow w.heap.size 3 1 v (misL (nums L) lo M).length ((misL (nums L) lo M).map (Value.int .i64)) ∧ Ext w w' := by
  have hmm := @run_makeMap Try.prog
  have HM := Lib.hid hM
  have Wf := Lib.hid wf
  clear hM wf
  go_enter Try.func34, Try.ntmps34
  go_wp2
  go_loopw [21] (fun i wr => ∃ (k : Nat) (D : DataW Unit), k ≤ n ∧ i = .int .i64 k ∧ Ext w wr ∧ wr.ownsMap Try.prog 3 (plainElem Try.prog 4) w.heap.size k D ∧ Seen D (nums (L.take k))) (fun i _ => n - (intOf i).toNat)
  case atStart => exact ⟨0, _, by omega, rfl, Ext.alloc _ _, World.ownsMap_made _ _ _ _, by simpa [nums] using Seen.nil⟩
  case round =>
    obtain ⟨k, D, hk, rfl, E2, own2, seen⟩ := hrel
    by_cases hlt : k < n
    · obtain ⟨b1, o1, rfl, g1⟩ := (r.ext E2).2 k hlt
      obtain ⟨a2, n2, c2, ⟨j1, j2, j3, j4, j5, j6⟩, -, -, -, -⟩ := g1
      have hkl : k < L.length := by rw [r.1]; exact hlt
      have hkey : keyOf Try.prog 3 (.int .i64 (kget L k).num) = some (.int .i64 (kget L k).num) := keyOf_int_mk Try.underlying3 (by rw [kget_eq L k hkl]; exact Wf.out _ (List.getElem_mem _))
      have p1 := blk_new wr (.cells #[.int .i64 (kget L k).num, .int .i64 (kget L k).fr, .int .i64 (kget L k).row, .int .i64 (kget L k).part, .bool (kget L k).last, .slice a2 n2 c2] 27)
      have S3 := Lib.hid (seen.snoc (kget L k).num)
      rw [← nums_take L k hkl] at S3
      have own3 := own2.alloc (.cells #[.int .i64 (kget L k).num, .int .i64 (kget L k).fr, .int .i64 (kget L k).row, .int .i64 (kget L k).part, .bool (kget L k).last, .slice a2 n2 c2] 27)
      have E3 := E2.trans (Ext.alloc wr (.cells #[.int .i64 (kget L k).num, .int .i64 (kget L k).fr, .int .i64 (kget L k).row, .int .i64 (kget L k).part, .bool (kget L k).last, .slice a2 n2 c2] 27))
      clear own2 seen
      go_wp2_with (at_mapUpdate; refine wpList_mapUpdate_own _ rfl _ _ _ 78 rfl 3 4 keyed_int Try.underlying78 _ w.heap.size k _ rfl own3 (by unfold maxLen; omega) _ _ _ rfl rfl hkey _ [] (plainElem_bool Try.underlying4 true) ?_; intro w1 hown1 hgrow1)
      go_roundw
      case rel => exact ⟨k + 1, _, by omega, by go_num, Ext.grown E3 hgrow1 (fun q hq => by cases hq; exact Nat.le_refl _), hown1, S3.out⟩
      case measure => simp [intOf]; omega
    · obtain rfl : k = n := by omega
      have hNL : nums (L.take k) = nums L := by rw [List.take_of_length_le (by rw [r.1]; exact Nat.le_refl _)]
      obtain ⟨N, hN⟩ : ∃ N, N = nums L := ⟨_, rfl⟩
      rw [hNL, ← hN] at seen
      have HN := Lib.hid hN
      have Sn := Lib.hid seen
      clear seen r hN hNL
      go_wp2
      go_loopw [10, 11] (fun v i wz => ∃ (j : Nat), j ≤ M ∧ i = .int .i64 (lo + j) ∧ Ext w wz ∧ wz.ownsMap Try.prog 3 (plainElem Try.prog 4) w.heap.size k D ∧ wz.ownsRow w.heap.size 3 1 v (misL N lo j).length ((misL N lo j).map (Value.int .i64))) (fun _ i _ => (10001 - intOf i).toNat)
      case atStart => exact ⟨0, by omega, by simp, E2, own2, World.ownsRow_nil _ _ _ _⟩
      case round =>
        obtain ⟨j, hj, rfl, E4, own4, row4⟩ := hrel
        clear E2 own2
        have hj2 : (j : Int) ≤ M := by omega
        by_cases hlt : j < M
        · have hle : lo + (j : Int) ≤ hi := by have := HM.out; omega
          have hkey : keyOf Try.prog 3 (.int .i64 (lo + (j : Int))) = some (.int .i64 (lo + (j : Int))) := keyOf_int_mk Try.underlying3 (wf_small (by omega) (by omega))
          have hat := Sn.out.2 (lo + (j : Int))
          cases hc : N.contains (lo + (j : Int))
          · have hm := Lib.hid (misL_no hc)
            rw [hc] at hat
            clear hc
            have hlen : (misL N lo j).length ≤ 100000 := Nat.le_trans (misL_len N lo j) (by omega)
            have hne := own_ne_map row4 own4
            have hsz := E4.size
            go_wp2_with (first | (at_lookup; refine wpList_lookup_own_bool _ rfl _ _ 78 rfl 3 4 keyed_int Try.underlying78 Try.underlying4 (zero_bool _) w.heap.size k D rfl own4 _ _ rfl hkey _ hat ?_) | (at_builtin; refine wpList_app _ row4 hsz _ rfl _ _ 43 rfl (.int .i64 0) 8 Try.underlying43 info_int rfl rfl rfl rfl (by omega) (by omega) ?_; intro v2 w2 row5 gr2 _))
            go_roundw
            case rel =>
              refine ⟨j + 1, by omega, by push_cast; go_num, Ext.grown E4 gr2 (owns_ge row4), own4.kept gr2 hne, ?_⟩
              rw [hm.out, miss_map_snoc]
              simpa using row5
            case measure => simp [intOf]; omega
          · have hm := Lib.hid (misL_yes hc)
            rw [hc] at hat
            clear hc
            go_wp2_with (at_lookup; refine wpList_lookup_own_bool _ rfl _ _ 78 rfl 3 4 keyed_int Try.underlying78 Try.underlying4 (zero_bool _) w.heap.size k D rfl own4 _ _ rfl hkey _ hat ?_)
            go_roundw
            case rel => exact ⟨j + 1, by omega, by push_cast; go_num, E4, own4, by rw [hm.out]; exact row4⟩
            case measure => simp [intOf]; omega
        · obtain rfl : j = M := by omega
          have hgt : hi < lo + (j : Int) := by have := HM.out; omega
          go_wp2
          go_ret
          rw [HN.out] at row4
          exact ⟨_, rfl, row4, E4⟩
theorem impl_MissingNumbers_any (a : Option Addr) (c n : Nat) (L : List Pkt) (lo hi : Int) (w : World) (hn : n < 2^40) (r : KP w a n L) (wf : ∀ x ∈ L, (Lit.int .i64 x.num).wf = true) :
    Calls Try.prog 34 #[.slice a n c, .int .i64 lo, .int .i64 hi] w fun e w' => ∃ v, e = .returned v ∧ w'.ownsRow w.heap.size 3 1 v (miss L lo hi).length ((miss L lo hi).map (Value.int .i64)) ∧ Ext w w' := by
  by_cases h : 0 ≤ lo ∧ hi ≤ 9999
  · rw [show miss L lo hi = misL (nums L) lo (hi - lo + 1).toNat from if_pos h]
    exact impl_MissingNumbers_yes a c n L lo hi w hn r wf h.1 h.2 _ rfl
  · rw [show miss L lo hi = [] from if_neg h]
    by_cases h1 : lo < 0
    · clear h
      go_enter Try.func34, Try.ntmps34
      go_wp2
      go_ret
      exact ⟨_, rfl, World.ownsRow_nil _ _ _ _, Below.refl _ _⟩
    · have h2 : 9999 < hi := by omega
      clear h
      go_enter Try.func34, Try.ntmps34
      go_wp2
      go_ret
      exact ⟨_, rfl, World.ownsRow_nil _ _ _ _, Below.refl _ _⟩
theorem eqIntS_same (a1 a2 : Option Addr) (c1 c2 n : Nat) (xs : List Int) (w : World) (hn : n < 2^47) (r1 : Sl w a1 n (xs.map (Value.int .i64))) (r2 : Sl w a2 n (xs.map (Value.int .i64))) :
    Calls Try.prog 35 #[.slice a1 n c1, .slice a2 n c2] w fun e w' => e = .returned (.bool true) ∧ ∃ m, w' = w.drewN m := by
  refine (eqIntS_any a1 a2 c1 c2 n n xs xs w hn hn r1 r2).mono ?_
  rintro e w' ⟨rfl, h⟩
  exact ⟨by rw [decide_eq_true rfl], h⟩
set_option maxRecDepth 100000 in
theorem spec_MissingNumbers_yes (a : Option Addr) (c n : Nat) (L : List Pkt) (lo hi : Int) (w : World) (hn : n < 2^40) (r : KP w a n L) (h1 : 0 ≤ lo) (h2 : hi ≤ 9999) (M : Nat) (hM : M = (hi - lo + 1).toNat) :
    Calls Try.prog 32 #[.slice a n c, .int .i64 lo, .int .i64 hi] w fun e w' => ∃ v, e = .returned v ∧ w'.ownsRow w.heap.size 3 1 v (misL (nums L) lo M).length ((misL (nums L) lo M).map (Value.int .i64)) ∧ Ext w w' := by
  have HM := Lib.hid hM
  clear hM
  have hown := World.ownsRow_made (base := w.heap.size) (e := 3) (size := 1) w #[] 0 (Nat.le_refl _) (by simp) rfl
  go_enter Try.func32, Try.ntmps32
  go_wp2
  have E1 : Ext w (w.alloc (.cells #[] 3)) := Ext.alloc _ _
  go_loopw [7, 8] (fun v i wz => ∃ (j : Nat), j ≤ M ∧ i = .int .i64 (lo + j) ∧ Ext w wz ∧ wz.ownsRow w.heap.size 3 1 v (misL (nums L) lo j).length ((misL (nums L) lo j).map (Value.int .i64))) (fun _ i _ => (10001 - intOf i).toNat)
  case atStart => exact ⟨0, by omega, by simp, E1, hown⟩
  case round =>
    obtain ⟨j, hj, rfl, E4, row4⟩ := hrel
    clear hown E1
    have hj2 : (j : Int) ≤ M := by omega
    by_cases hlt : j < M
    · have hle : lo + (j : Int) ≤ hi := by have := HM.out; omega
      obtain ⟨wo, rfl⟩ : ∃ wo : World, wo = wr := ⟨_, rfl⟩
      go_wp2
      go_loopw [9, 10] (fun b i wr => ∃ k : Nat, k ≤ n ∧ i = .int .i64 k ∧ b = .bool ((nums (L.take k)).contains (lo + (j : Int))) ∧ ∃ m, wr = wo.drewN m) (fun _ i _ => n - (intOf i).toNat)
      case atStart => exact ⟨0, by omega, rfl, rfl, 0, rfl⟩
      case round =>
        obtain ⟨k, hk, rfl, rfl, m, rfl⟩ := hrel
        by_cases hkn : k < n
        · obtain ⟨b1, o1, rfl, g1⟩ := (r.ext (below_drewN E4 m)).2 k hkn
          obtain ⟨a2, n2, c2, ⟨j1, -⟩, -⟩ := g1
          have hkl : k < L.length := by rw [r.1]; exact hkn
          have hs := contains_snoc (nums (L.take k)) (kget L k).num (lo + (j : Int))
          rw [← nums_take L k hkl] at hs
          have Hs := Lib.hid hs
          clear hs
          cases hc : (nums (L.take k)).contains (lo + (j : Int))
          · rw [hc] at Hs
            clear hc
            go_wp2
            go_roundw
            case rel => exact ⟨k + 1, by omega, by go_num, by rw [Hs.out]; rfl, _, rfl⟩
            case measure => simp [intOf]; omega
          · rw [hc] at Hs
            clear hc
            go_wp2
            go_roundw
            case rel => exact ⟨k + 1, by omega, by go_num, by rw [Hs.out]; rfl, _, rfl⟩
            case measure => simp [intOf]; omega
        · obtain rfl : k = n := by omega
          have hNL : nums (L.take k) = nums L := by rw [List.take_of_length_le (by rw [r.1]; exact Nat.le_refl _)]
          rw [hNL]
          clear hNL
          have row5 := owns_drewN row4 m
          have E5 := below_drewN E4 m
          clear row4 E4
          cases hc : (nums L).contains (lo + (j : Int))
          · have hm := Lib.hid (misL_no hc)
            clear hc
            have hlen : (misL (nums L) lo j).length ≤ 100000 := Nat.le_trans (misL_len (nums L) lo j) (by omega)
            have hsz := E5.size
            go_wp2_with (at_builtin; refine wpList_app _ row5 hsz _ rfl _ _ 43 rfl (.int .i64 0) 8 Try.underlying43 info_int rfl rfl rfl rfl (by omega) (by omega) ?_; intro v2 w2 row6 gr2 _)
            go_roundw
            case rel =>
              refine ⟨j + 1, by omega, by push_cast; go_num, Ext.grown E5 gr2 (owns_ge row5), ?_⟩
              rw [hm.out, miss_map_snoc]
              simpa using row6
            case measure => simp [intOf]; omega
          · have hm := Lib.hid (misL_yes hc)
            clear hc
            go_wp2
            go_roundw
            case rel => exact ⟨j + 1, by omega, by push_cast; go_num, E5, by rw [hm.out]; exact row5⟩
            case measure => simp [intOf]; omega
    · obtain rfl : j = M := by omega
      have hgt : hi < lo + (j : Int) := by have := HM.out; omega
      go_wp2
      go_ret
      exact ⟨_, rfl, row4, E4⟩
theorem spec_MissingNumbers_any (a : Option Addr) (c n : Nat) (L : List Pkt) (lo hi : Int) (w : World) (hn : n < 2^40) (r : KP w a n L) :
    Calls Try.prog 32 #[.slice a n c, .int .i64 lo, .int .i64 hi] w fun e w' => ∃ v, e = .returned v ∧ w'.ownsRow w.heap.size 3 1 v (miss L lo hi).length ((miss L lo hi).map (Value.int .i64)) ∧ Ext w w' := by
  by_cases h : 0 ≤ lo ∧ hi ≤ 9999
  · rw [show miss L lo hi = misL (nums L) lo (hi - lo + 1).toNat from if_pos h]
    exact spec_MissingNumbers_yes a c n L lo hi w hn r h.1 h.2 _ rfl
  · rw [show miss L lo hi = [] from if_neg h]
    have hown := World.ownsRow_made (base := w.heap.size) (e := 3) (size := 1) w #[] 0 (Nat.le_refl _) (by simp) rfl
    by_cases h1 : lo < 0
    · clear h
      go_enter Try.func32, Try.ntmps32
      go_wp2
      go_ret
      exact ⟨_, rfl, hown, Ext.alloc _ _⟩
    · have h2 : 9999 < hi := by omega
      clear h
      go_enter Try.func32, Try.ntmps32
      go_wp2
      go_ret
      exact ⟨_, rfl, hown, Ext.alloc _ _⟩
end Go.Proofs.Ytpjjadmjdafkeaa
