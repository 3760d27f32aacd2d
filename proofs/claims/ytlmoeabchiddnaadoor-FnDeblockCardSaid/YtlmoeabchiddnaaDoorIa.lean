/- Arrays and structs of integers as values and as blocks: load, store, index, equality, whatever their length. -/
import Derived.Test.YtlmoeabchiddnaaDoorOwn
import Derived.ChangeKeysEq
import Derived.Laws.Tables
namespace Go.Proofs.YtlmoeabchiddnaaDoor
open Go.RowKit
set_option maxHeartbeats 400000
/-- The cells of a list of integers. -/
def ic (zs : List Int) : Array Value := (zs.map (Value.int .i64)).toArray
theorem ic_size (zs : List Int) : (ic zs).size = zs.length := by simp [ic]
theorem ic_toList (zs : List Int) : (ic zs).toList = zs.map (Value.int .i64) := by simp [ic]
theorem ic_get (zs : List Int) (i : Nat) (h : i < zs.length) : (ic zs)[i]? = some (.int .i64 (nth zs i)) := by simp [ic, nth, h]
theorem ic_inj {xs ys : List Int} (h : ic xs = ic ys) : xs = ys := by
  have h2 := congrArg Array.toList h
  rw [ic_toList, ic_toList] at h2
  exact (List.map_inj_right (fun a b e => by simpa using e)).1 h2
/-- n of zs from off on. -/
def sub (zs : List Int) (off n : Nat) : List Int := (zs.drop off).take n
theorem sub_len (zs : List Int) (off n : Nat) (h : off + n ≤ zs.length) : (sub zs off n).length = n := by simp [sub]; omega
theorem sub_all (zs : List Int) (n : Nat) (h : zs.length = n) : sub zs 0 n = zs := by subst h; simp [sub]
theorem nth_sub (zs : List Int) (off n i : Nat) (h : i < n) : nth (sub zs off n) i = nth zs (off + i) := by
  simp [nth, sub, List.getD, List.getElem?_take, h, List.getElem?_drop]
theorem sub_one (zs : List Int) (i : Nat) (h : i < zs.length) : sub zs i 1 = [nth zs i] := by
  refine List.ext_getElem (by simp [sub]; omega) fun j h1 h2 => ?_
  have : j = 0 := by simp at h2; omega
  subst this
  simp [sub, nth, h]
theorem ic_extract (zs : List Int) (off n : Nat) : (ic zs).extract off (off + n) = ic (sub zs off n) := by
  apply Array.toList_inj.1
  rw [ic_toList]
  simp [ic, sub, List.extract, List.map_take, List.map_drop]
/-- ys laid over zs from off on. -/
def spl (zs : List Int) (off : Nat) (ys : List Int) : List Int := zs.take off ++ ys ++ zs.drop (off + ys.length)
theorem spl_len {zs ys : List Int} {off : Nat} (h : off + ys.length ≤ zs.length) : (spl zs off ys).length = zs.length := by simp [spl]; omega
theorem spl_all {zs ys : List Int} (h : ys.length = zs.length) : spl zs 0 ys = ys := by simp [spl, h]
theorem spl_nil (zs : List Int) (off : Nat) : spl zs off [] = zs := by simp [spl]
theorem spl_cons {zs ys : List Int} {off : Nat} {y : Int} (h : off < zs.length) : spl (zs.set off y) (off + 1) ys = spl zs off (y :: ys) := by
  unfold spl
  rw [List.take_set, List.drop_set_of_lt (by omega), List.take_succ_eq_append_getElem h, List.set_append_right _ _ (by simp; omega)]
  have e : off - (List.take off zs).length = 0 := by simp; omega
  rw [e]
  simp [Nat.add_assoc, Nat.add_comm 1]
theorem nth_spl_in {zs ys : List Int} {off i : Nat} (h : off + ys.length ≤ zs.length) (h1 : off ≤ i) (h2 : i < off + ys.length) : nth (spl zs off ys) i = nth ys (i - off) := by
  have hl : (List.take off zs).length = off := by simp; omega
  unfold nth spl
  rw [List.append_assoc, List.getD_eq_getElem?_getD, List.getElem?_append_right (by rw [hl]; exact h1), hl, List.getElem?_append_left (by omega), ← List.getD_eq_getElem?_getD]
theorem nth_spl_out {zs ys : List Int} {off i : Nat} (h : off + ys.length ≤ zs.length) (h1 : i < off ∨ off + ys.length ≤ i) : nth (spl zs off ys) i = nth zs i := by
  have hl : (List.take off zs).length = off := by simp; omega
  unfold nth spl
  rw [List.append_assoc]
  rcases h1 with h1 | h1
  · rw [List.getD_eq_getElem?_getD, List.getElem?_append_left (by rw [hl]; exact h1), List.getElem?_take_of_lt h1, ← List.getD_eq_getElem?_getD]
  · rw [List.getD_eq_getElem?_getD, List.getElem?_append_right (by rw [hl]; omega), hl, List.getElem?_append_right (by omega), List.getElem?_drop, ← List.getD_eq_getElem?_getD]
    congr 1; omega
theorem nth_set_same (zs : List Int) (i : Nat) (v : Int) (h : i < zs.length) : nth (zs.set i v) i = v := by simp [nth, h]
theorem nth_set_ne (zs : List Int) (i j : Nat) (v : Int) (h : i ≠ j) : nth (zs.set i v) j = nth zs j := by simp [nth, List.getD, h]
/-- Block b holds just the integers zs. -/
def IB (w : World) (b T : Nat) (zs : List Int) : Prop := w.heap[b]? = some (.cells (ic zs) T (0, 0))
theorem IB.lt {w : World} {b T : Nat} {zs : List Int} (h : IB w b T zs) : b < w.heap.size := lt_of_block h
theorem IB.cell {w : World} {b T : Nat} {zs : List Int} (h : IB w b T zs) {i : Nat} (hi : i < zs.length) : w.cell? ⟨b, i, none⟩ = some (.int .i64 (nth zs i)) := by
  have : w.heap[b]? = some (.cells (ic zs) T (0, 0)) := h
  simp only [World.cell?, this]
  simpa using ic_get zs i hi
theorem IB.frozen {w : World} {b T : Nat} {zs : List Int} (h : IB w b T zs) (i : Nat) : w.frozen? ⟨b, i, none⟩ = false := by
  have : w.heap[b]? = some (.cells (ic zs) T (0, 0)) := h
  simp [World.frozen?, this]
theorem IB.ext {w w' : World} {b T : Nat} {zs : List Int} (h : IB w b T zs) (e : Ext w w') : IB w' b T zs := e.blk h
theorem IB.alloc {w : World} {b T : Nat} {zs : List Int} (h : IB w b T zs) (o : Obj) : IB (w.alloc o) b T zs := blk_alloc h o
theorem IB.new (w : World) (T : Nat) (zs : List Int) : IB (w.alloc (.cells (ic zs) T)) w.heap.size T zs := blk_new w _
theorem IB.gr {w w' : World} {b T : Nat} {zs : List Int} {row : Option Nat} (h : IB w b T zs) (g : w.grownBy w' row) (hne : row ≠ some b) : IB w' b T zs := blk_gr h g hne
theorem IB.drewN {w : World} {b T : Nat} {zs : List Int} (h : IB w b T zs) (n : Nat) : IB (w.drewN n) b T zs := h
theorem IB.set {w : World} {b T : Nat} {zs : List Int} (h : IB w b T zs) (i : Nat) (v : Int) : IB (w.setCell ⟨b, i, none⟩ (.int .i64 v)) b T (zs.set i v) := by
  have h1 := heap_setCell_same w b i (ic zs) T (.int .i64 v) h
  have h2 : (ic zs).setIfInBounds i (.int .i64 v) = ic (zs.set i v) := by
    apply Array.toList_inj.1
    rw [ic_toList, Array.toList_setIfInBounds, ic_toList, List.map_set]
  rw [h2] at h1
  exact h1
theorem IB.set_other {w : World} {b c i T : Nat} {v : Value} {zs : List Int} (h : IB w b T zs) (hne : b ≠ c) : IB (w.setCell ⟨c, i, none⟩ v) b T zs := blk_set_other h hne
theorem gr_set (w : World) (B i : Nat) (v : Value) : w.grownBy (w.setCell ⟨B, i, none⟩ v) (some B) := ⟨rfl, rfl, rfl, by simp, fun k _ hk => heap_setCell_other w ⟨B, i, none⟩ k v (fun e => hk (by simp [e]))⟩
section
variable {P : Program}
theorem wpList_wanted {ops : Array Oper} {rest : List Oper} {o : Oper} {a : Act} {Q : Exit → Act → World → Prop} {w : World} (hw : Region.wanted o (yielded ops a.tmps) = true)
    (h : ∀ K : Act → World → Prop, (∀ a w, wpList P ops Q rest a w → K a w) → o.wp P a w K Q) : wpList P ops Q (o :: rest) a w :=
  wpList_step fun K hK => by rw [if_pos hw]; exact h K hK
theorem isAgg_of {ty : TypeId} {d : TypeDesc} (w : World) (hu : P.underlying ty = some d) (hd : (match d with | .struct _ | .array _ _ => true | _ => false) = true) : (isAgg ty).run P w = .ok true w := by
  unfold isAgg
  rw [Sem.run_bind, run_underlying hu w]
  cases d <;> simp_all
theorem run_loadVar_ib (w : World) {b T : Nat} {zs : List Int} (h : IB w b T zs) (ty : TypeId) (off n : Nat) (d : TypeDesc) (hu : P.underlying ty = some d) (hd : (match d with | .struct _ | .array _ _ => true | _ => false) = true) (hi : (P.info? ty).map (·.size) = some n) (hb : off + n ≤ zs.length) :
    (loadVar ty ⟨b, off, none⟩).run P w = .ok (.agg (ic (sub zs off n))) w := by
  have hl : (loadCells ⟨b, off, none⟩ ((sub zs off n).map (Value.int .i64)).length).run P w = .ok ((sub zs off n).map (Value.int .i64)).toArray w :=
    run_loadCells_list (P := P) w ⟨b, off, none⟩ _ (fun j v hv => by
      have hj : j < n := by
        have := (List.getElem?_eq_some_iff.1 hv).1
        simp [sub] at this; omega
      have hadd : (⟨b, off, none⟩ : Addr).add j = ⟨b, off + j, none⟩ := by rw [Addr.add_lit]
      rw [hadd, h.cell (by omega)]
      have e : ((sub zs off n).map (Value.int .i64))[j]? = some (.int .i64 (nth (sub zs off n) j)) := by
        have : j < (sub zs off n).length := by rw [sub_len _ _ _ hb]; exact hj
        simp [nth, this]
      rw [e, nth_sub _ _ _ _ hj] at hv
      exact hv)
  cases hq : P.info? ty with
  | none => simp [hq] at hi
  | some i =>
    have hs : i.size = n := by simpa [hq] using hi
    rw [List.length_map, sub_len _ _ _ hb] at hl
    simp [loadVar, Sem.run_bind, isAgg_of w hu hd, sizeOf, typeInfo, hq, hs, hl, ic]
/-- x := *p, p at off in a block of integers, the type an array or a struct of n cells. -/
theorem wpList_iload {ops : Array Oper} {rest : List Oper} {o : Oper} {a : Act} {w : World} {Q : Exit → Act → World → Prop} (ty : TypeId) (x : Operand) (ho : o.op = .load ty x) (hgd : Region.wanted o (yielded ops a.tmps) = true)
    {b T : Nat} {zs : List Int} (h : IB w b T zs) (off n : Nat) (hx : a.eval x = .pointer (some ⟨b, off, none⟩)) (d : TypeDesc)
    (hu : P.underlying ty = some d) (hd : (match d with | .struct _ | .array _ _ => true | _ => false) = true) (hi : (P.info? ty).map (·.size) = some n) (hb : off + n ≤ zs.length) (cs : Array Value) (hc : ic (sub zs off n) = cs)
    (hK : wpList P ops Q rest (a.put o.dst (.agg cs)) w) : wpList P ops Q (o :: rest) a w := by
  subst hc
  refine wpList_wanted hgd fun _ hK' => ?_
  unfold Oper.wp execOp
  simp only [ho, hx, Instr.loadAt, Instr.sureAddr, Sem.run_bind, Sem.run_pure, Result.andThen_ok, run_loadVar_ib w h ty off n d hu hd hi hb]
  exact hK' _ _ hK
theorem run_storeCells_ib {b T off : Nat} : ∀ (ys : List Int) (i : Nat) (zs : List Int) (w : World), IB w b T zs → off + i + ys.length ≤ zs.length →
    ∃ w', (storeCells ⟨b, off, none⟩ (ys.map (Value.int .i64)) i).run P w = .ok () w' ∧ IB w' b T (spl zs (off + i) ys) ∧ w.grownBy w' (some b)
  | [], i, zs, w, h, hl => ⟨w, by simp [storeCells], by rw [spl_nil]; exact h, World.grownBy.refl _ _⟩
  | y :: ys, i, zs, w, h, hl => by
    have hlt : off + i < zs.length := by simp at hl; omega
    have hadd : (⟨b, off, none⟩ : Addr).add i = ⟨b, off + i, none⟩ := by rw [Addr.add_lit]
    have hst : (store ((⟨b, off, none⟩ : Addr).add i) (.int .i64 y)).run P w = .ok () (w.setCell ⟨b, off + i, none⟩ (.int .i64 y)) := by
      rw [hadd, run_store P w _ (.int .i64 y) _ rfl, h.cell hlt]
      simp [h.frozen]
    obtain ⟨w', h1, h2, h3⟩ := run_storeCells_ib (off := off) ys (i + 1) (zs.set (off + i) y) _ (h.set (off + i) y) (by simp at hl ⊢; omega)
    refine ⟨w', ?_, ?_, grownBy_trans (gr_set _ _ _ _) h3⟩
    · simp only [List.map_cons, storeCells, Sem.run_bind, hst, Result.andThen_ok, h1]
    · rw [← spl_cons hlt]
      exact h2
/-- *p = y. -/
theorem wpList_istore {ops : Array Oper} {rest : List Oper} {o : Oper} {a : Act} {w : World} {Q : Exit → Act → World → Prop} (ty : TypeId) (x y : Operand) (ho : o.op = .store ty x y) (hgd : Region.wanted o (yielded ops a.tmps) = true)
    {b T : Nat} {zs : List Int} (h : IB w b T zs) (off n : Nat) (hx : a.eval x = .pointer (some ⟨b, off, none⟩)) (cs : Array Value) (hy : a.eval y = .agg cs) (ys : List Int) (hc : cs = ic ys)
    (hi : (P.info? ty).map (·.size) = some n) (hn : ys.length = n) (hb : off + n ≤ zs.length)
    (hK : ∀ w', IB w' b T (spl zs off ys) → w.grownBy w' (some b) → wpList P ops Q rest (a.put o.dst undef) w') : wpList P ops Q (o :: rest) a w := by
  subst hc hn
  refine wpList_wanted hgd fun _ hK' => ?_
  obtain ⟨w', h1, h2, h3⟩ := run_storeCells_ib (P := P) (off := off) ys 0 zs w h (by omega)
  have hs : (storeVar ty ⟨b, off, none⟩ (.agg (ic ys))).run P w = .ok () w' := by
    cases hq : P.info? ty with
    | none => simp [hq] at hi
    | some i =>
      have hs : i.size = ys.length := by simpa [hq] using hi
      simp [storeVar, sizeOf, typeInfo, hq, Value.cells, hs, ic_size, ic_toList, h1]
  unfold Oper.wp execOp
  simp only [ho, hx, hy, Instr.storeAt, Instr.sureAddr, Sem.run_bind, Sem.run_pure, Result.andThen_ok, hs]
  exact hK' _ _ (hK w' h2 h3)
/-- a[i], a an array value of integers. -/
theorem wpList_iindex {ops : Array Oper} {rest : List Oper} {o : Oper} {a : Act} {w : World} {Q : Exit → Act → World → Prop} (t : TypeId) (x ix : Operand) (ho : o.op = .index t x ix) (hgd : Region.wanted o (yielded ops a.tmps) = true)
    (zs : List Int) (hx : a.eval x = .agg (ic zs)) (k len : Nat) (z : Int) (hix : a.eval ix = .int .i64 z) (hz : z = (k : Int)) (e : TypeId) (hu : P.underlying t = some (.array len e)) (he : P.underlying e = some (.int .i64)) (hi : (P.info? e).map (·.size) = some 1) (hk : k < len) (hl : zs.length = len)
    (hK : wpList P ops Q rest (a.put o.dst (.int .i64 (nth zs k))) w) : wpList P ops Q (o :: rest) a w := by
  subst hz
  refine wpList_wanted hgd fun _ hK' => ?_
  have hag : (isAgg e).run P w = .ok false w := by
    unfold isAgg
    rw [Sem.run_bind, run_underlying he w]
    simp
  have hrun : (Instr.index t (.agg (ic zs)) (.int .i64 (k : Int))).run P w = .ok (.int .i64 (nth zs k)) w := by
    cases hq : P.info? e with
    | none => simp [hq] at hi
    | some i =>
      have hs : i.size = 1 := by simpa [hq] using hi
      have h1 := ic_get zs k (by omega)
      simp [Instr.index, asIntOf, run_underlying hu, hk, sizeOf, typeInfo, hq, hs, part, Sem.run_bind, hag, h1]
  unfold Oper.wp execOp
  simp only [ho, hx, hix, hrun, Sem.run_bind, Result.andThen_ok]
  exact hK' _ _ hK
/-- a[i], a an array value of arrays of m integers. -/
theorem wpList_iindexa {ops : Array Oper} {rest : List Oper} {o : Oper} {a : Act} {w : World} {Q : Exit → Act → World → Prop} (t : TypeId) (x ix : Operand) (ho : o.op = .index t x ix) (hgd : Region.wanted o (yielded ops a.tmps) = true)
    (zs : List Int) (hx : a.eval x = .agg (ic zs)) (k len m : Nat) (z : Int) (hix : a.eval ix = .int .i64 z) (hz : z = (k : Int)) (e : TypeId) (d : TypeDesc) (hu : P.underlying t = some (.array len e)) (he : P.underlying e = some d) (hd : (match d with | .struct _ | .array _ _ => true | _ => false) = true) (hi : (P.info? e).map (·.size) = some m) (hk : k < len)
    (hK : wpList P ops Q rest (a.put o.dst (.agg (ic (sub zs (k * m) m)))) w) : wpList P ops Q (o :: rest) a w := by
  subst hz
  refine wpList_wanted hgd fun _ hK' => ?_
  have hag := isAgg_of w he hd
  have hrun : (Instr.index t (.agg (ic zs)) (.int .i64 (k : Int))).run P w = .ok (.agg (ic (sub zs (k * m) m))) w := by
    cases hq : P.info? e with
    | none => simp [hq] at hi
    | some i =>
      have hs : i.size = m := by simpa [hq] using hi
      have h1 := ic_extract zs (k * m) m
      simp [Instr.index, asIntOf, run_underlying hu, hk, sizeOf, typeInfo, hq, hs, part, Sem.run_bind, hag, h1]
  unfold Oper.wp execOp
  simp only [ho, hx, hix, hrun, Sem.run_bind, Result.andThen_ok]
  exact hK' _ _ hK
end
end Go.Proofs.YtlmoeabchiddnaaDoor
