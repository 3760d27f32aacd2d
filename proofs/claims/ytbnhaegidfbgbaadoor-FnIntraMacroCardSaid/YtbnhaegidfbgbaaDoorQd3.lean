/- Macroblocks: what is valid; the program's and the reference's tests. | Copies of macroblocks. | Drawing: vectors, blocks. | Drawing: blocks of levels. | Drawing: macroblocks. | Drawing: pictures. | Drawing: the arguments of RowsRead. | Drawing: indices; the arguments of RequantizeMacro. | Drawing: the arguments of Deblock. | Small helpers: clip, floor, sides. | The transform of a block of 4 by 4 numbers, plain. -/
import Derived.Test.YtbnhaegidfbgbaaDoorQd2
import Derived.Deep.Cut
import Derived.Deep.CutRange
namespace Go.Proofs.YtbnhaegidfbgbaaDoor
open Go.RowKit
set_option maxHeartbeats 400000
structure Mac where
 kind : Int
 x : Int
 y : Int
 modes : List Int
 lv : List Int
/-- Four modes, four blocks of sixteen levels. -/
structure Mac.ok (m : Mac) : Prop where
 modes : m.modes.length = 4
 lv : m.lv.length = 64
/-- The 71 integers of a macroblock. -/
def Mac.zs (m : Mac) : List Int := m.kind :: m.x :: m.y :: (m.modes ++ m.lv)
def mac0 : Mac := ⟨0, 0, 0, List.replicate 4 0, List.replicate 64 0⟩
theorem mac0_ok : mac0.ok := ⟨rfl, rfl⟩
theorem Mac.zs_len {m : Mac} (h : m.ok) : m.zs.length = 71 := by simp [Mac.zs, h.modes, h.lv]
theorem Mac.zs_kind (m : Mac) : nth m.zs 0 = m.kind := rfl
theorem Mac.zs_mv {m : Mac} : ic (sub m.zs 1 2) = #[.int .i64 m.x, .int .i64 m.y] := rfl
theorem Mac.zs_modes {m : Mac} (h : m.ok) : sub m.zs 3 4 = m.modes := by
 simp only [Mac.zs, sub, List.drop_succ_cons, List.drop_zero]
 rw [List.take_append_of_le_length (by rw [h.modes]; exact Nat.le_refl _), List.take_of_length_le (by rw [h.modes]; exact Nat.le_refl _)]
theorem Mac.zs_lv {m : Mac} (h : m.ok) : sub m.zs 7 64 = m.lv := by
 simp only [Mac.zs, sub, List.drop_succ_cons]
 rw [List.drop_append_of_le_length (by rw [h.modes]; exact Nat.le_refl _), List.drop_of_length_le (by rw [h.modes]; exact Nat.le_refl _), List.nil_append, List.take_of_length_le (by rw [h.lv]; exact Nat.le_refl _)]
theorem Mac.nth_mode {m : Mac} (h : m.ok) (k : Nat) (hk : k < 4) : nth m.zs (3 + k) = nth m.modes k := by
 rw [← Mac.zs_modes h, nth_sub _ _ _ _ hk]
def zero4 : List Int := List.replicate 4 0
def zero64 : List Int := List.replicate 64 0
/-- What MacroValid asks. -/
def Mac.valid (m : Mac) : Prop := (0 ≤ m.kind ∧ m.kind ≤ 2) ∧ (-16 ≤ m.x ∧ m.x ≤ 16 ∧ -16 ≤ m.y ∧ m.y ≤ 16) ∧ (m.kind ≠ 1 → m.x = 0 ∧ m.y = 0) ∧ (m.kind ≠ 2 → m.modes = zero4) ∧ (m.kind = 2 → ∀ j, j < 4 → 0 ≤ nth m.modes j ∧ nth m.modes j ≤ 4) ∧ (m.kind = 0 → m.lv = zero64) ∧ inB 4080 m.lv = true
noncomputable instance (m : Mac) : Decidable m.valid := Classical.propDecidable _
/-- Blocks of sixteen: all within the bound. -/
theorem inB_blocks {B : Int} {zs : List Int} (h : zs.length = 64) : inB B zs = true ↔ ∀ k, k < 4 → inB B (sub zs (k * 16) 16) = true := by
 constructor
 ·intro hb k hk
  refine inB_yes fun j hj => ?_
  rw [sub_len _ _ _ (by omega)] at hj
  rw [nth_sub _ _ _ _ hj]
  exact inB_iff.1 hb _ (by omega)
 ·intro hb
  refine inB_yes fun j hj => ?_
  have h1 := inB_iff.1 (hb (j / 16) (by omega)) (j % 16) (by rw [sub_len _ _ _ (by omega)]; omega)
  rw [nth_sub _ _ _ _ (by omega), show j / 16 * 16 + j % 16 = j by omega] at h1
  exact h1
section
variable {P : Program}
theorem wpList_veql {ops : Array Oper} {rest : List Oper} {o : Oper} {a : Act} {w : World} {Q : Exit → Act → World → Prop} (t : TypeId) (x y : Operand) (t2 : TypeId) (ho : o.op = .binOp .eql t x y t2) (hgd : Region.wanted o (yielded ops a.tmps) = true)
 (cs ds : Array Value) (hx : a.eval x = .agg cs) (hy : a.eval y = .agg ds) (r : Bool) (hrun : ∀ w, (Op.equalIn 10000 t (.agg cs) (.agg ds)).run P w = .ok r w) (hm : P.eqGuardType P.depth t = false)
 (hK : wpList P ops Q rest (a.put o.dst (.bool r)) w) : wpList P ops Q (o :: rest) a w := by
 refine wpList_wanted hgd fun _ hK' => ?_
 unfold Oper.wp execOp
 simp [ho, hx, hy, Sem.run_bind, run_eqGuard_agg w .eql t x y _ _ hm, run_eql_struct w t, hrun, Result.andThen]
 exact hK' _ _ hK
end
/-- A valid vector. -/
def vv (x y : Int) : Prop := -16 ≤ x ∧ x ≤ 16 ∧ -16 ≤ y ∧ y ≤ 16
set_option maxRecDepth 100000 in
theorem vec_eq (x y : Int) (r : Bool) (hr : decide (x = 0 ∧ y = 0) = r) (w : World) : (Op.equalIn 10000 27 (.agg #[.int .i64 x, .int .i64 y]) (.agg #[.int .i64 0, .int .i64 0])).run Tryd.prog w = .ok r w := by
 have hf : Tryd.prog.underlying 27 = some (.struct (Tryd.prog.fieldsOf 27)) := by kernel_rfl
 have hp : Tryd.prog.stoodInHeld 27 = false := by kernel_rfl
 subst hr
 rw [run_equalIn_struct w 9999 _ _ _ hf hp]
 have hag : (isAgg 3).run Tryd.prog w = .ok false w := by
  unfold isAgg
  rw [Sem.run_bind, run_underlying Tryd.underlying3 w]
  simp
 have p1 : ∀ (u v : Int), (part 3 #[.int .i64 u, .int .i64 v] 0).run Tryd.prog w = .ok (.int .i64 u) w := fun u v => by simp [part, Sem.run_bind, hag]
 have p2 : ∀ (u v : Int), (part 3 #[.int .i64 u, .int .i64 v] 1).run Tryd.prog w = .ok (.int .i64 v) w := fun u v => by simp [part, Sem.run_bind, hag]
 have q : ∀ (u v : Int), (Op.equalIn 9999 3 (.int .i64 u) (.int .i64 v)).run Tryd.prog w = .ok (u == v) w := fun u v => run_equalIn_int w 9998 _ _ _ _ _ Tryd.underlying3
 simp only [Program.fieldsOf, Tryd.underlying27, Op.eqFields, Sem.run_bind, p1, p2, q, Result.andThen_ok]
 by_cases hx : x = 0
 ·subst hx
  by_cases hy : y = 0
  ·subst hy; simp [p1, p2, q, Result.andThen]
  ·simp [p1, p2, q, Result.andThen, hy]
 ·simp [p1, p2, q, Result.andThen, hx]
theorem guard_Vector : Tryd.prog.eqGuardType Tryd.prog.depth 27 = false := by kernel_rfl
theorem guard_A4 : Tryd.prog.eqGuardType Tryd.prog.depth 30 = false := by kernel_rfl
theorem guard_A16A4 : Tryd.prog.eqGuardType Tryd.prog.depth 32 = false := by kernel_rfl
theorem size_A4 : (Tryd.prog.info? 30).map (·.size) = some 4 := by kernel_rfl
theorem size_A16A4 : (Tryd.prog.info? 32).map (·.size) = some 64 := by kernel_rfl
theorem size_Vector : (Tryd.prog.info? 27).map (·.size) = some 2 := by kernel_rfl
theorem size_Macro : (Tryd.prog.info? 34).map (·.size) = some 71 := by kernel_rfl
theorem zero_A4 : (Tryd.prog.info? 30).map (·.zero) = some (some (.agg (ic (List.replicate 4 0)))) := by kernel_rfl
theorem zero_A16A4 : (Tryd.prog.info? 32).map (·.zero) = some (some (.agg (ic (List.replicate 64 0)))) := by kernel_rfl
theorem eqE_int : EqE Tryd.prog 3 1 9999 := EqE.int Tryd.underlying3 9998
theorem eqE_A16 : EqE Tryd.prog 31 16 9999 := EqE.arr (n := 16) Tryd.underlying31 size_int size_A16 (EqE.int Tryd.underlying3 9997)
theorem impl_VectorValid_yes (x y : Int) (w : World) (h : vv x y) :
 Calls Tryd.prog 40 #[.agg #[.int .i64 x, .int .i64 y]] w fun e w' => e = .returned (.bool true) ∧ Ext w w' := by
 obtain ⟨h1, h2, h3, h4⟩ := h
 go_enter Tryd.func40, Tryd.ntmps40
 go_wp2
 go_ret
 exact ⟨by first | rfl | (simp; done) | (simp; omega), Ext.alloc _ _⟩
theorem impl_VectorValid_no (x y : Int) (w : World) (h : ¬ vv x y) :
 Calls Tryd.prog 40 #[.agg #[.int .i64 x, .int .i64 y]] w fun e w' => e = .returned (.bool false) ∧ Ext w w' := by
 unfold vv at h
 by_cases h1 : -16 ≤ x
 ·by_cases h2 : x ≤ 16
  ·by_cases h3 : -16 ≤ y
   ·have h4 : ¬ y ≤ 16 := fun h4 => h ⟨h1, h2, h3, h4⟩
    clear h
    go_enter Tryd.func40, Tryd.ntmps40
    go_wp2
    go_ret
    exact ⟨by first | rfl | (simp; done) | (simp; omega), Ext.alloc _ _⟩
   ·clear h
    go_enter Tryd.func40, Tryd.ntmps40
    go_wp2
    go_ret
    exact ⟨by first | rfl | (simp; done) | (simp; omega), Ext.alloc _ _⟩
  ·clear h
   go_enter Tryd.func40, Tryd.ntmps40
   go_wp2
   go_ret
   exact ⟨by first | rfl | (simp; done) | (simp; omega), Ext.alloc _ _⟩
 ·clear h
  go_enter Tryd.func40, Tryd.ntmps40
  go_wp2
  go_ret
  exact ⟨by first | rfl | (simp; done) | (simp; omega), Ext.alloc _ _⟩
end Go.Proofs.YtbnhaegidfbgbaaDoor
namespace Go.Proofs.YtbnhaegidfbgbaaDoor
open Go.RowKit
set_option maxHeartbeats 400000
/-- The first k of xs, behind them what ys has. -/
def mixI (xs ys : List Int) (k : Nat) : List Int := xs.take k ++ ys.drop k
theorem mixI_zero (xs ys : List Int) : mixI xs ys 0 = ys := by simp [mixI]
theorem mixI_len (xs ys : List Int) (k n : Nat) (h1 : xs.length = n) (h2 : ys.length = n) : (mixI xs ys k).length = n := by simp [mixI]; omega
theorem mixI_all (xs ys : List Int) (n : Nat) (h1 : xs.length = n) (h2 : ys.length = n) : mixI xs ys n = xs := by
 unfold mixI
 rw [List.take_of_length_le (by omega), List.drop_of_length_le (by omega), List.append_nil]
theorem mixI_set (xs ys : List Int) (k n : Nat) (h1 : xs.length = n) (h2 : ys.length = n) (h : k < n) : (mixI xs ys k).set k (nth xs k) = mixI xs ys (k + 1) := by
 have hl : (xs.take k).length = k := by simp; omega
 have hk' : k < ys.length := by omega
 have hk : k < xs.length := by omega
 unfold mixI
 rw [List.drop_eq_getElem_cons hk', List.set_append_right _ _ (by omega), hl, Nat.sub_self, List.set_cons_zero, List.take_succ_eq_append_getElem hk, nth_eq _ _ hk, List.append_assoc]
 rfl
end Go.Proofs.YtbnhaegidfbgbaaDoor
namespace Go.Proofs.YtbnhaegidfbgbaaDoor
open Go.RowKit
set_option maxHeartbeats 1000000
/-- Integers within bounds. -/
def bdI (B : Int) (zs : List Int) : Prop := ∀ j, j < zs.length → -B ≤ nth zs j ∧ nth zs j ≤ B
theorem bdI_set {B : Int} {zs : List Int} {i : Nat} {v : Int} (h : bdI B zs) (h1 : -B ≤ v) (h2 : v ≤ B) : bdI B (zs.set i v) := by
 intro j hj
 rw [List.length_set] at hj
 by_cases hij : i = j
 ·subst hij; rw [nth_set_same _ _ _ hj]; omega
 ·rw [nth_set_ne _ _ _ _ hij]; exact h j hj
theorem bdI_spl {B : Int} {zs ys : List Int} {off : Nat} (h : bdI B zs) (hy : bdI B ys) (hl : off + ys.length ≤ zs.length) : bdI B (spl zs off ys) := by
 intro j hj
 rw [spl_len hl] at hj
 by_cases h1 : off ≤ j ∧ j < off + ys.length
 ·rw [nth_spl_in hl h1.1 h1.2]; exact hy _ (by omega)
 ·rw [nth_spl_out hl (by omega)]; exact h j hj
/-- Block q holds n integers within bounds. -/
def IQ (B : Int) (w : World) (q T n : Nat) : Prop := ∃ zs, IB w q T zs ∧ zs.length = n ∧ bdI B zs
theorem IQ.gr {B : Int} {w w' : World} {q T n b : Nat} (h : IQ B w q T n) (g : w.grownBy w' (some b)) (hne : q ≠ b) : IQ B w' q T n := by
 obtain ⟨zs, h1, h2, h3⟩ := h
 exact ⟨zs, h1.gr g (by simp; omega), h2, h3⟩
theorem IQ.ext {B : Int} {w w' : World} {q T n : Nat} (h : IQ B w q T n) (e : Ext w w') : IQ B w' q T n := by
 obtain ⟨zs, h1, h2, h3⟩ := h
 exact ⟨zs, h1.ext e, h2, h3⟩
theorem IQ.set {B : Int} {w : World} {q T n : Nat} (h : IQ B w q T n) (i : Nat) (v : Int) (h1 : -B ≤ v) (h2 : v ≤ B) : IQ B (w.setCell ⟨q, i, none⟩ (.int .i64 v)) q T n := by
 obtain ⟨zs, k1, k2, k3⟩ := h
 exact ⟨zs.set i v, k1.set i v, by simpa using k2, bdI_set k3 h1 h2⟩
theorem IQ.cell {B : Int} {w : World} {q T n : Nat} (h : IQ B w q T n) {i : Nat} (hi : i < n) : ∃ v : Int, w.cell? ⟨q, i, none⟩ = some (.int .i64 v) ∧ w.frozen? ⟨q, i, none⟩ = false ∧ -B ≤ v ∧ v ≤ B := by
 obtain ⟨zs, k1, rfl, k3⟩ := h
 exact ⟨_, k1.cell hi, k1.frozen i, k3 i hi⟩
theorem IQ.lt {B : Int} {w : World} {q T n : Nat} (h : IQ B w q T n) : q < w.heap.size := by
 obtain ⟨zs, k1, -⟩ := h; exact k1.lt
theorem IQ.set_other {B : Int} {w : World} {q c i T n : Nat} {v : Value} (h : IQ B w q T n) (hne : q ≠ c) : IQ B (w.setCell ⟨c, i, none⟩ v) q T n := by
 obtain ⟨zs, k1, k2, k3⟩ := h
 exact ⟨zs, k1.set_other hne, k2, k3⟩
end Go.Proofs.YtbnhaegidfbgbaaDoor
namespace Go.Proofs.YtbnhaegidfbgbaaDoor
open Go.RowKit
set_option maxHeartbeats 1000000
/-- A row written that the call made is as good as what it grew by. -/
theorem gr_new {w w1 w2 : World} {r : Option Nat} {q : Nat} (g : w.grownBy w1 r) (h : w1.grownBy w2 (some q)) (hq : w.heap.size ≤ q) : w.grownBy w2 r :=
 ⟨h.os.trans g.os, h.tape.trans g.tape, h.output.trans g.output, Nat.le_trans g.size h.size, fun k hk hne => (h.block k (Nat.lt_of_lt_of_le hk g.size) (by simp; omega)).trans (g.block k hk hne)⟩
theorem RdP.grq {w w' : World} {b P q : Nat} (h : RdP w b P) (g : w.grownBy w' (some q)) (hq : b < q) : RdP w' b P := by
 obtain ⟨p, hp, a, m, c, zs, h1, h2, h3, h4, h5⟩ := h
 refine ⟨p, hp, a, m, c, zs, by rw [g.block b (lt_of_block h1) (by simp; omega)]; exact h1, h2, ?_, h4, h5⟩
 rcases h4 with h4 | h4
 ·subst h4
  exact ⟨h3.1, fun i hi => by omega⟩
 ·exact h3.grown g (fun x hx e => by have := h4 x hx; simp at e; omega)
theorem DG.grq {w wx wy : World} {b P C k q : Nat} (h : DG w b P C k wx) (g : wx.grownBy wy (some q)) (hq : w.heap.size ≤ q) (hb : b < q) : DG w b P C k wy := ⟨gr_new h.1 g hq, h.2.grq g hb⟩
end Go.Proofs.YtbnhaegidfbgbaaDoor
namespace Go.Proofs.YtbnhaegidfbgbaaDoor
open Go.RowKit
set_option maxHeartbeats 1000000
section
variable {P : Program}
end
theorem IQ.splq {B : Int} {w : World} {q T n off : Nat} {zs ys : List Int} (p : IB w q T (spl zs off ys)) (hl : zs.length = n) (hz : bdI B zs) (hy : bdI B ys) (ho : off + ys.length ≤ n) : IQ B w q T n :=
 ⟨_, p, by rw [spl_len (by omega), hl], bdI_spl hz hy (by omega)⟩
theorem odd_any (b P : Nat) (n : Int) (w : World) (h : RdP w b P) (hp : P < 2^40) (hn0 : 0 ≤ n) (hn : n ≤ 1000000000) :
 Calls Tryd.prog 87 #[.pointer (some ⟨b, 0, none⟩), .int .i64 n] w fun e w' => ∃ x : Bool, e = .returned (.bool x) ∧ RdP w' b (P + 1) ∧ w.grownBy w' (some b) := by
 by_cases hz : n = 0
 ·subst hz
  refine (odd_0 b 0 _ (by omega)).mono ?_
  rintro e w' ⟨rfl, rfl⟩
  exact ⟨false, rfl, h.mono (by omega), grown_refl _ _⟩
 ·refine (odd_c b P n _ h hp (by omega) hn).mono ?_
  rintro e w' ⟨x, rfl, r, g⟩
  exact ⟨x, rfl, r, g⟩
theorem zero_Macz : (Tryd.prog.info? 34).map (·.zero) = some (some (.agg (ic (zl 71)))) := by kernel_rfl
/-- What holds while a macroblock is drawn. -/
def MG (w : World) (b P k q : Nat) (wx : World) : Prop := DG w b P 1 k wx ∧ IQ 10000 wx q 34 71 ∧ IB wx w.heap.size 34 (zl 71) ∧ b < w.heap.size ∧ w.heap.size < q
theorem MG.step {w wx : World} {b P k q : Nat} (h : MG w b P k q wx) : MG w b P (k + 1) q wx := ⟨h.1.step, h.2⟩
theorem MG.more {w wx wy : World} {b P k q : Nat} (h : MG w b P k q wx) (e : wx.grownBy wy (some b)) (r : RdP wy b (P + k * 1 + 1)) (_ : 1 ≤ 1) : MG w b P (k + 1) q wy := ⟨h.1.more e r (Nat.le_refl _), h.2.1.gr e (by have := h.2.2.2; omega), h.2.2.1.gr e (by have := h.2.2.2; simp; omega), h.2.2.2⟩
theorem MG.ext {w wx wy : World} {b P k q : Nat} (h : MG w b P k q wx) (e : Ext wx wy) : MG w b P (k + 1) q wy := ⟨h.1.ext e, h.2.1.ext e, h.2.2.1.ext e, h.2.2.2⟩
theorem MG.ext0 {w wx wy : World} {b P k q : Nat} (h : MG w b P k q wx) (e : Ext wx wy) : MG w b P k q wy := ⟨⟨grown_ext h.1.1 e, h.1.2.ext e⟩, h.2.1.ext e, h.2.2.1.ext e, h.2.2.2⟩
theorem MG.drew {w wx : World} {b P k q : Nat} (h : MG w b P k q wx) : MG w b P k q wx.drew := ⟨h.1.drew, h.2.1.ext (Ext.drewN _ 1), h.2.2.1.ext (Ext.drewN _ 1), h.2.2.2⟩
theorem MG.up {w wx : World} {b P k k' q : Nat} (h : MG w b P k q wx) (hk : k ≤ k') : MG w b P k' q wx := ⟨⟨h.1.1, h.1.2.mono (by omega)⟩, h.2⟩
theorem MG.re {w wx : World} {b P k q P' : Nat} (h : MG w b P k q wx) (hP : P + k ≤ P') : MG w b P' 0 q wx := ⟨h.1.reset (by omega) 1, h.2⟩
theorem MG.set {w wx : World} {b P k q : Nat} (h : MG w b P k q wx) (i : Nat) (v : Int) (h1 : -10000 ≤ v) (h2 : v ≤ 10000) : MG w b P k q (wx.setCell ⟨q, i, none⟩ (.int .i64 v)) :=
 ⟨h.1.set (Nat.le_of_lt h.2.2.2.2) (Nat.lt_trans h.2.2.2.1 h.2.2.2.2), h.2.1.set i v h1 h2, h.2.2.1.set_other (by have := h.2.2.2; omega), h.2.2.2⟩
theorem MG.spl {w wx wy : World} {b P k q off : Nat} {zs ys : List Int} (h : MG w b P k q wx) (g : wx.grownBy wy (some q)) (p : IB wy q 34 (spl zs off ys)) (hl : zs.length = 71) (hz : bdI 10000 zs) (hy : bdI 10000 ys) (ho : off + ys.length ≤ 71) : MG w b P k q wy :=
 ⟨h.1.grq g (Nat.le_of_lt h.2.2.2.2) (Nat.lt_trans h.2.2.2.1 h.2.2.2.2), IQ.splq p hl hz hy ho, h.2.2.1.gr g (by have := h.2.2.2; simp; omega), h.2.2.2⟩
theorem MG.cell {w wx : World} {b P k q : Nat} (h : MG w b P k q wx) {i : Nat} (hi : i < 71) : ∃ v : Int, wx.cell? ⟨q, i, none⟩ = some (.int .i64 v) ∧ wx.frozen? ⟨q, i, none⟩ = false ∧ -10000 ≤ v ∧ v ≤ 10000 := h.2.1.cell hi
end Go.Proofs.YtbnhaegidfbgbaaDoor
namespace Go.Proofs.YtbnhaegidfbgbaaDoor
open Go.RowKit
set_option maxHeartbeats 1000000
theorem l20Size_c (b P : Nat) (w : World) (h : RdP w b P) (hp : P < 2^38) :
 Calls Tryd.prog 122 #[.pointer (some ⟨b, 0, none⟩)] w fun e w' => ∃ x : Nat, e = .returned (.int .i64 x) ∧ side x ∧ RdP w' b (P + 1) ∧ w.grownBy w' (some b) := by
 have hbw : b < w.heap.size := h.lt
 have e1 := Ext.alloc w (.cells #[.int .i64 1, .int .i64 1, .int .i64 1, .int .i64 2, .int .i64 2, .int .i64 3, .int .i64 4] 3)
 have S1 := blk_new w (.cells #[.int .i64 1, .int .i64 1, .int .i64 1, .int .i64 2, .int .i64 2, .int .i64 3, .int .i64 4] 3)
 go_enter Tryd.func122, Tryd.ntmps122
 go_wp2_with fail
 refine (pick_c b _ 7 _ (h.ext e1) (by omega) (by omega) (by omega)).mono ?_
 rintro e w2 ⟨x, rfl, xa, xb, r2, g2⟩
 have S2 := gr_blk g2 S1 (by omega)
 have G2 := grown_trans (ext_gr e1) g2
 clear S1 e1 h g2
 have hc : ∀ (i : Nat) (v : Value), (#[Value.int .i64 1, .int .i64 1, .int .i64 1, .int .i64 2, .int .i64 2, .int .i64 3, .int .i64 4])[i]? = some v → w2.cell? ⟨w.heap.size, i, none⟩ = some v := fun i v hv => by simp only [World.cell?, S2]; exact hv
 have k0 := hc 0 _ rfl
 have k1 := hc 1 _ rfl
 have k2 := hc 2 _ rfl
 have k3 := hc 3 _ rfl
 have k4 := hc 4 _ rfl
 have k5 := hc 5 _ rfl
 have k6 := hc 6 _ rfl
 clear hc S2
 obtain rfl | rfl | rfl | rfl | rfl | rfl | rfl : x = 0 ∨ x = 1 ∨ x = 2 ∨ x = 3 ∨ x = 4 ∨ x = 5 ∨ x = 6 := by omega
 ·go_wp2
  go_ret
  exact ⟨8, rfl, ⟨by decide, by decide, by decide⟩, r2, G2⟩
 ·go_wp2
  go_ret
  exact ⟨8, rfl, ⟨by decide, by decide, by decide⟩, r2, G2⟩
 ·go_wp2
  go_ret
  exact ⟨8, rfl, ⟨by decide, by decide, by decide⟩, r2, G2⟩
 ·go_wp2
  go_ret
  exact ⟨16, rfl, ⟨by decide, by decide, by decide⟩, r2, G2⟩
 ·go_wp2
  go_ret
  exact ⟨16, rfl, ⟨by decide, by decide, by decide⟩, r2, G2⟩
 ·go_wp2
  go_ret
  exact ⟨24, rfl, ⟨by decide, by decide, by decide⟩, r2, G2⟩
 ·go_wp2
  go_ret
  exact ⟨32, rfl, ⟨by decide, by decide, by decide⟩, r2, G2⟩
/-- What holds while a picture is drawn: its box O, the result's box R = w.heap.size, the reader b below both. -/
structure PGd (w : World) (b O P : Nat) (W H : Int) (v : Value) (zs : List Int) (wx : World) : Prop where
 gr : w.grownBy wx (some b)
 rd : RdP wx b P
 box : wx.heap[O]? = some (.cells #[.int .i64 W, .int .i64 H, v] 25 (0, 0))
 res : wx.heap[w.heap.size]? = some (.cells #[.int .i64 0, .int .i64 0, .slice none 0 0] 25 (0, 0))
 own : wx.ownsRow (w.heap.size + 2) 3 1 v zs.length (zs.map (Value.int .i64))
 lo : b < w.heap.size
 hO : O = w.heap.size + 1
 ok : smp zs
theorem PGd.more {w wx wy : World} {b O P P' : Nat} {W H : Int} {v : Value} {zs : List Int} (h : PGd w b O P W H v zs wx) (g : wx.grownBy wy (some b)) (r : RdP wy b P') : PGd w b O P' W H v zs wy := by
 have h1 := h.lo
 have h2 := h.hO
 exact ⟨grown_trans h.gr g, r, blk_gr h.box g (by simp; omega), blk_gr h.res g (by simp; omega), own_gr h.own g (by omega), h1, h2, h.ok⟩
theorem PGd.mono {w wx : World} {b O P P' : Nat} {W H : Int} {v : Value} {zs : List Int} (h : PGd w b O P W H v zs wx) (hp : P ≤ P') : PGd w b O P' W H v zs wx :=
 ⟨h.gr, h.rd.mono hp, h.box, h.res, h.own, h.lo, h.hO, h.ok⟩
theorem PGd.ex {w wx wy : World} {b O P : Nat} {W H : Int} {v : Value} {zs : List Int} (h : PGd w b O P W H v zs wx) (e : Ext wx wy) : PGd w b O P W H v zs wy :=
 ⟨grown_ext h.gr e, h.rd.ext e, e.blk h.box, e.blk h.res, owns_ext h.own e, h.lo, h.hO, h.ok⟩
theorem PGd.app {w wx w3 : World} {b O P : Nat} {W H : Int} {v v3 : Value} {zs : List Int} {z : Int} (h : PGd w b O P W H v zs wx) (own3 : w3.ownsRow (w.heap.size + 2) 3 1 v3 (zs.length + 1) (zs.map (Value.int .i64) ++ [.int .i64 z])) (gr3 : wx.grownBy w3 v.ownBlock) (hz : 0 ≤ z ∧ z ≤ 255) :
 PGd w b O P W H v3 (zs ++ [z]) (w3.setCell ⟨O, 2, none⟩ v3) := by
 have h1 := h.lo
 have h2 := h.hO
 have hge := owns_ge h.own
 have hb3 := blk_gr h.box gr3 (fun e => by have := hge _ e; omega)
 have hr3 := blk_gr h.res gr3 (fun e => by have := hge _ e; omega)
 have hb4 := heap_setCell_same w3 O 2 _ _ v3 hb3
 obtain ⟨q, hq1, hq2⟩ := h.rd
 refine ⟨grown_any (grown_any h.gr gr3 (fun k hk => by have := hge k hk; omega)) (gr_set _ _ _ _) (fun k hk => by cases hk; omega), ⟨q, hq1, (hq2.gr gr3 (fun k hk => by have := hge k hk; omega)).set (by omega)⟩, by simpa using hb4, blk_set_other hr3 (by omega), ?_, h1, h2, ?_⟩
 ·rw [List.length_append, List.map_append]
  exact own_gr own3 (gr_set _ _ _ _) (by omega)
 ·intro y hy
  rcases List.mem_append.1 hy with h3 | h3
  ·exact h.ok y h3
  ·simp at h3; subst h3; exact hz
set_option maxRecDepth 100000 in
set_option maxHeartbeats 3000000 in
theorem l20Pic_c (b P W H : Nat) (w : World) (h : RdP w b P) (hp : P < 2^37) (hw : side W) (hh : side H) :
 Calls Tryd.prog 123 #[.pointer (some ⟨b, 0, none⟩), .int .i64 W, .int .i64 H] w fun e w' => ∃ (a : Option Addr) (c n : Nat) (zs : List Int), e = .returned (.agg #[.int .i64 W, .int .i64 H, .slice a n c]) ∧ n = W * H ∧ smp zs ∧ w'.ownsRow w.heap.size 3 1 (.slice a n c) n (zs.map (Value.int .i64)) ∧ RdP w' b (P + 2000) ∧ w.grownBy w' (some b) := by
 have hbw : b < w.heap.size := h.lt
 obtain ⟨w1, w2, -⟩ := hw
 obtain ⟨h1, h2, -⟩ := hh
 have D0 : PGd w b (w.heap.size + 1) P W H (.slice none 0 0) [] ((w.alloc (.cells #[.int .i64 0, .int .i64 0, .slice none 0 0] 25)).alloc (.cells #[.int .i64 W, .int .i64 H, .slice none 0 0] 25)) := by
  have e1 := Ext.alloc w (.cells #[.int .i64 0, .int .i64 0, .slice none 0 0] 25)
  have e2 := Ext.alloc (w.alloc (.cells #[.int .i64 0, .int .i64 0, .slice none 0 0] 25)) (.cells #[.int .i64 W, .int .i64 H, .slice none 0 0] 25)
  refine ⟨ext_gr (e1.trans e2), h.ext (e1.trans e2), ?_, e2.blk (blk_new _ _), World.ownsRow_nil _ _ _ _, hbw, rfl, fun z hz => by cases hz⟩
  have := blk_new (w.alloc (.cells #[.int .i64 0, .int .i64 0, .slice none 0 0] 25)) (.cells #[.int .i64 W, .int .i64 H, .slice none 0 0] 25)
  rwa [World.size_alloc] at this
 go_enter Tryd.func123, Tryd.ntmps123
 go_upto_region 2 with fail
 try simp only [World.size_alloc]
 generalize (w.alloc (.cells #[.int .i64 0, .int .i64 0, .slice none 0 0] 25)).alloc (.cells #[.int .i64 W, .int .i64 H, .slice none 0 0] 25) = w0 at *
 clear h
 go_wp2_with fail
 refine (pick_c b _ 256 _ D0.rd (by omega) (by omega) (by omega)).mono ?_
 rintro e wa ⟨va, rfl, vaa, vab, ra, ga⟩
 have D1 := D0.more ga ra
 clear D0 ga ra
 go_wp2_with fail
 refine (pick_c b _ 9 _ D1.rd (by omega) (by omega) (by omega)).mono ?_
 rintro e wa2 ⟨dx, rfl, dxa, dxb, ra, ga⟩
 have D2 := D1.more ga ra
 clear D1 ga ra
 go_wp2_with fail
 refine (pick_c b _ 9 _ D2.rd (by omega) (by omega) (by omega)).mono ?_
 rintro e wa3 ⟨dy, rfl, dya, dyb, ra, ga⟩
 have D3 := (D2.more ga ra).ex (Ext.alloc wa3 (.cells #[.int .i64 0, .int .i64 1, .int .i64 4, .int .i64 30, .int .i64 256] 3))
 have S3 := blk_new wa3 (.cells #[.int .i64 0, .int .i64 1, .int .i64 4, .int .i64 30, .int .i64 256] 3)
 have hsz3 := lt_of_block (D2.more ga ra).box
 have hb3 := (D2.more ga ra).lo
 have hO3 := (D2.more ga ra).hO
 clear D2 ga ra
 go_wp2_with fail
 refine (pick_c b _ 5 _ D3.rd (by omega) (by omega) (by omega)).mono ?_
 rintro e wa4 ⟨ni, rfl, nia, nib, ra, ga⟩
 have S4 := gr_blk ga S3 (by omega)
 have D4 := D3.more ga ra
 have hc : ∃ nz : Int, wa4.cell? ⟨wa3.heap.size, ni.toNat, none⟩ = some (.int .i64 nz) ∧ 0 ≤ nz ∧ nz ≤ 256 := by
  obtain rfl | rfl | rfl | rfl | rfl : ni = 0 ∨ ni = 1 ∨ ni = 2 ∨ ni = 3 ∨ ni = 4 := by omega
  ·exact ⟨0, by simp [World.cell?, S4], by omega, by omega⟩
  ·exact ⟨1, by simp [World.cell?, S4], by omega, by omega⟩
  ·exact ⟨4, by simp [World.cell?, S4], by omega, by omega⟩
  ·exact ⟨30, by simp [World.cell?, S4], by omega, by omega⟩
  ·exact ⟨256, by simp [World.cell?, S4], by omega, by omega⟩
 obtain ⟨nz, hc4, nza, nzb⟩ := hc
 clear D3 ga ra S3 S4 hsz3 hb3 hO3
 go_wp2_with fail
 refine (pick_c b _ (W + 8) _ D4.rd (by omega) (by omega) (by omega)).mono ?_
 rintro e wa5 ⟨ed, rfl, eda, edb, ra, ga⟩
 have D5 := D4.more ga ra
 clear D4 ga ra hc4
 go_wp2_with fail
 have D6 : PGd w b (w.heap.size + 1) (P + 10 + ([] : List Int).length) W H (.slice none 0 0) [] wa5 := D5.mono (by simp)
 clear D5
 go_loopw [13] (fun y wr => ∃ (u : Nat) (v : Value) (zs : List Int), u ≤ H ∧ y = .int .i64 u ∧ zs.length = u * W ∧ PGd w b (w.heap.size + 1) (P + 10 + zs.length) W H v zs wr) (fun y _ => H - (intOf y).toNat)
 case atStart => exact ⟨0, _, [], by omega, rfl, by simp, D6⟩
 case round =>
  obtain ⟨u, v, zs, hu, rfl, hl, D7⟩ := hrel
  clear D6
  have HL := Lib.hid hl
  clear hl
  by_cases hlt : u < H
  ·have hdu : decide (u < H) = true := by simpa using hlt
   go_wp2_with fail
   go_loopw [14] (fun x wr2 => ∃ (j : Nat) (v : Value) (zs : List Int), j ≤ W ∧ x = .int .i64 j ∧ zs.length = u * W + j ∧ PGd w b (w.heap.size + 1) (P + 10 + zs.length) W H v zs wr2) (fun x _ => W - (intOf x).toNat)
   case atStart => exact ⟨0, v, zs, by omega, rfl, by rw [HL.out]; simp, D7⟩
   case round =>
    obtain ⟨j, v2, ys, hj, rfl, hl2, D8⟩ := hrel
    clear D7
    have hyl : ys.length ≤ 1023 + 1 := by
     have := Nat.mul_le_mul (show u ≤ 31 by omega) (show W ≤ 32 by omega)
     omega
    have HL2 := Lib.hid hl2
    clear hl2
    by_cases hlj : j < W
    ·have hdj : decide (j < W) = true := by simpa using hlj
     have hpx : -128 ≤ (dx - 4) * (j : Int) ∧ (dx - 4) * (j : Int) ≤ 128 := by
      have a1 := Int.mul_le_mul_of_nonneg_right (show dx - 4 ≤ 4 by omega) (show (0 : Int) ≤ j by omega)
      have a2 := Int.mul_le_mul_of_nonneg_right (show -4 ≤ dx - 4 by omega) (show (0 : Int) ≤ j by omega)
      omega
     have hpy : -128 ≤ (dy - 4) * (u : Int) ∧ (dy - 4) * (u : Int) ≤ 128 := by
      have a1 := Int.mul_le_mul_of_nonneg_right (show dy - 4 ≤ 4 by omega) (show (0 : Int) ≤ u by omega)
      have a2 := Int.mul_le_mul_of_nonneg_right (show -4 ≤ dy - 4 by omega) (show (0 : Int) ≤ u by omega)
      omega
     obtain ⟨N, hN⟩ : ∃ N, N = va + (dx - 4) * (j : Int) + (dy - 4) * (u : Int) := ⟨_, rfl⟩
     have hNr : -300 ≤ N ∧ N ≤ 600 := by omega
     go_upto_region 14 with fail
     rw [← hN]
     clear hN hpx hpy
     go_upto_if 56 with fail
     go_cut [15] from 41 to 78 (fun s wx => ∃ N : Int, s = .int .i64 N ∧ -300 ≤ N ∧ N ≤ 900 ∧ PGd w b (w.heap.size + 1) (P + 11 + ys.length) W H v2 ys wx)
     case first =>
      by_cases hnz : 0 < nz
      ·have hd0 : decide (0 < nz) = true := by simpa using hnz
       go_wp2_with fail
       refine (pick_c b _ nz _ D8.rd (by omega) (by omega) (by omega)).mono ?_
       rintro e wb ⟨pk, rfl, pka, pkb, rb, gb⟩
       have D9 := D8.more gb rb
       go_wp2
       go_meet
       case rel => exact ⟨_, rfl, by omega, by omega, D9.mono (by omega)⟩
      ·have hd0 : decide (0 < nz) = false := by simpa using hnz
       go_wp2
       go_meet
       case rel => exact ⟨_, rfl, by omega, by omega, D8.mono (by omega)⟩
     case rest =>
      obtain ⟨M, rfl, hM1, hM2, D9⟩ := hcut
      clear D8 hNr
      go_upto_if 67 with fail
      go_cut [15] from 41 to 78 (fun s wx => ∃ N : Int, s = .int .i64 N ∧ -300 ≤ N ∧ N ≤ 1000 ∧ PGd w b (w.heap.size + 1) (P + 11 + ys.length) W H v2 ys wx)
      case first =>
       go_wp2
       all_goals
        go_meet
        case rel => exact ⟨_, rfl, by omega, by omega, D9⟩
      case rest =>
       obtain ⟨M, rfl, hM1, hM2, D10⟩ := hcut
       clear D9
       have D9 := D10
       clear D10
       obtain ⟨a2, c2, rfl⟩ := owns_form D9.own
       obtain ⟨-, k0, k1, k2, f0, f1, f2⟩ := bx3 D9.box
       have hsz : w.heap.size + 2 ≤ wc.heap.size := by
        have := lt_of_block D9.box
        have := D9.hO
        omega
       go_wp2_with (at_builtin; refine wpList_app _ D9.own hsz _ rfl _ _ 23 rfl (.int .i64 0) 8 Tryd.underlying23 info_int rfl rfl rfl rfl (by omega) (by omega) ?_; intro v3 w3 own3 gr3 _; obtain ⟨a3, c3, rfl⟩ := owns_form own3; have q3 := blk_gr D9.box gr3 (fun e => by have := owns_ge D9.own _ e; omega); obtain ⟨-, z0, z1, z2, g0, g1, g2⟩ := bx3 q3)
       all_goals
        go_roundw
        case rel => exact ⟨j + 1, _, ys ++ [_], by omega, by go_num, by rw [List.length_append, HL2.out]; simp; omega, (D9.app own3 gr3 (by omega)).mono (by simp; omega)⟩
        case measure => simp [intOf]; omega
    ·obtain rfl : W = j := by omega
     have hdj : decide (W < W) = false := by simp
     go_wp2
     go_roundw
     case rel => exact ⟨u + 1, v2, ys, by omega, by go_num, by rw [HL2.out, Nat.succ_mul], D8⟩
     case measure => simp [intOf]; omega
  ·obtain rfl : H = u := by omega
   have hdu : decide (H < H) = false := by simp
   obtain ⟨a2, c2, rfl⟩ := owns_form D7.own
   obtain ⟨-, k0, k1, k2, -⟩ := bx3 D7.box
   obtain ⟨-, r0, r1, r2, f0, f1, f2⟩ := bx3 D7.res
   have hzl : zs.length ≤ 1024 := by
    have := Nat.mul_le_mul (show H ≤ 32 by omega) (show W ≤ 32 by omega)
    have := HL.out
    omega
   have hres := blk_set3 (x' := .int .i64 W) (y' := .int .i64 H) (z' := .slice a2 zs.length c2) D7.res
   have hlo := D7.lo
   have hown := own_gr (own_gr (own_gr D7.own (gr_set _ w.heap.size 0 (.int .i64 W)) (by omega)) (gr_set _ w.heap.size 1 (.int .i64 H)) (by omega)) (gr_set _ w.heap.size 2 (.slice a2 zs.length c2)) (by omega)
   have hgr := grown_any (grown_any (grown_any D7.gr (gr_set _ w.heap.size 0 (.int .i64 W)) (fun k e => by cases e; omega)) (gr_set _ w.heap.size 1 (.int .i64 H)) (fun k e => by cases e; omega)) (gr_set _ w.heap.size 2 (.slice a2 zs.length c2)) (fun k e => by cases e; omega)
   have hrd := ((D7.rd.set (q := w.heap.size) (j := 0) (v := .int .i64 W) (by omega)).set (q := w.heap.size) (j := 1) (v := .int .i64 H) (by omega)).set (q := w.heap.size) (j := 2) (v := .slice a2 zs.length c2) (by omega)
   have hok := Lib.hid D7.ok
   have HL3 := Lib.hid (show zs.length = W * H by rw [HL.out, Nat.mul_comm])
   go_wp2
   exact bodyPost_ret (v := .agg #[.int .i64 W, .int .i64 H, .slice a2 zs.length c2]) (results_cell_row rfl _ _ w.heap.size 25 #[.int .i64 W, .int .i64 H, .slice a2 zs.length c2] (0, 0) _ rfl hres Tryd.underlying25 rfl size_Picture) rfl ⟨a2, c2, zs.length, zs, rfl, HL3.out, hok.out, owns_mono hown (by omega), hrd.mono (by omega), hgr⟩
/-- What holds while a drawn picture is changed: its box O, its row in block g. -/
def PH (w : World) (b P k O g n c : Nat) (x y : Int) (wx : World) : Prop := DG w b P 1 k wx ∧ wx.heap[O]? = some (.cells #[.int .i64 x, .int .i64 y, .slice (some ⟨g, 0, none⟩) n c] 25 (0, 0)) ∧ wx.heap[w.heap.size]? = some (.cells #[.int .i64 0, .int .i64 0, .slice none 0 0] 25 (0, 0)) ∧ (∃ zs : List Int, zs.length = n ∧ wx.ownsRow (w.heap.size + 1) 3 1 (.slice (some ⟨g, 0, none⟩) n c) n (zs.map (Value.int .i64))) ∧ b < w.heap.size ∧ w.heap.size < O ∧ g < O
theorem PH.g {w wx : World} {b P k O g n c : Nat} {x y : Int} (h : PH w b P k O g n c x y wx) : w.heap.size + 1 ≤ g := by
 obtain ⟨-, -, -, ⟨zs, -, h1⟩, -⟩ := h
 exact (h1.lt g rfl).1
theorem PH.step {w wx : World} {b P k O g n c : Nat} {x y : Int} (h : PH w b P k O g n c x y wx) : PH w b P (k + 1) O g n c x y wx := ⟨h.1.step, h.2⟩
theorem PH.grb {w wx wy : World} {b P k k' O g n c : Nat} {x y : Int} (h : PH w b P k O g n c x y wx) (e : wx.grownBy wy (some b)) (d : DG w b P 1 k' wy) : PH w b P k' O g n c x y wy := by
 obtain ⟨h1, h2, h3, ⟨zs, h4, h5⟩, h6, h7, h8⟩ := h
 exact ⟨d, blk_gr h2 e (by simp; omega), blk_gr h3 e (by simp; omega), ⟨zs, h4, own_gr h5 e (by omega)⟩, h6, h7, h8⟩
theorem PH.more {w wx wy : World} {b P k O g n c : Nat} {x y : Int} (h : PH w b P k O g n c x y wx) (e : wx.grownBy wy (some b)) (r : RdP wy b (P + k * 1 + 1)) (_ : 1 ≤ 1) : PH w b P (k + 1) O g n c x y wy := h.grb e (h.1.more e r (Nat.le_refl _))
theorem PH.ext {w wx wy : World} {b P k O g n c : Nat} {x y : Int} (h : PH w b P k O g n c x y wx) (e : Ext wx wy) : PH w b P (k + 1) O g n c x y wy := h.grb (ext_gr e) (h.1.ext e)
theorem PH.ext0 {w wx wy : World} {b P k O g n c : Nat} {x y : Int} (h : PH w b P k O g n c x y wx) (e : Ext wx wy) : PH w b P k O g n c x y wy := h.grb (ext_gr e) ⟨grown_ext h.1.1 e, h.1.2.ext e⟩
theorem PH.drew {w wx : World} {b P k O g n c : Nat} {x y : Int} (h : PH w b P k O g n c x y wx) : PH w b P k O g n c x y wx.drew := h.ext0 (Ext.drewN _ 1)
theorem PH.re {w wx : World} {b P k O g n c P' : Nat} {x y : Int} (h : PH w b P k O g n c x y wx) (hP : P + k ≤ P') : PH w b P' 0 O g n c x y wx := ⟨h.1.reset (by omega) 1, h.2⟩
theorem PH.set {w wx : World} {b P k O g n c : Nat} {x y : Int} (h : PH w b P k O g n c x y wx) (i : Nat) (v : Int) : PH w b P k O g n c x y (wx.setCell ⟨g, i, none⟩ (.int .i64 v)) := by
 have hg := h.g
 obtain ⟨h1, h2, h3, ⟨zs, h4, h5⟩, h6, h7, h8⟩ := h
 obtain ⟨o2, gr⟩ := h5.stored i (.int .i64 v)
 refine ⟨h1.set (by omega) (by omega), blk_set_other h2 (by omega), blk_set_other h3 (by omega), ⟨zs.set i v, by simpa using h4, ?_⟩, h6, h7, h8⟩
 rw [List.map_set]
 exact o2
theorem PH.cell {w wx : World} {b P k O g n c : Nat} {x y : Int} (h : PH w b P k O g n c x y wx) {i : Nat} (hi : i < n) : ∃ v : Value, wx.cell? ⟨g, i, none⟩ = some v ∧ wx.frozen? ⟨g, i, none⟩ = false := by
 obtain ⟨h1, h2, h3, ⟨zs, h4, h5⟩, h6, h7, h8⟩ := h
 obtain ⟨v, hv, -⟩ := owns_get h5 hi
 exact ⟨v, hv, h5.frozenAt i⟩
/-- What a drawn picture is. -/
def PicR (w : World) (b P : Nat) (e : Ending) (w' : World) : Prop := ∃ (p : Pic) (a : Option Addr) (c n : Nat), e = .returned (.agg #[.int .i64 p.w, .int .i64 p.h, .slice a n c]) ∧ n = p.px.length ∧ n ≤ 1024 ∧ -8 ≤ p.w ∧ p.w ≤ 40 ∧ 0 ≤ p.h ∧ p.h ≤ 40 ∧ Sl w' a n (p.px.map (Value.int .i64)) ∧ (∀ y, a = some y → w.heap.size ≤ y.block) ∧ RdP w' b P ∧ w.grownBy w' (some b)
/-- The result out of the box. -/
theorem PicR.of {w wx wy : World} {b P : Nat} {x y : Int} {a : Option Addr} {c n : Nat} {zs : List Int} (hn : n ≤ 1024) (h1 : -8 ≤ x) (h2 : x ≤ 40) (h3 : 0 ≤ y) (h4 : y ≤ 40) (s : Sl wx a n (zs.map (Value.int .i64))) (ha : ∀ y, a = some y → w.heap.size < y.block) (r : RdP wx b P) (g : w.grownBy wx (some b)) (hb : b < w.heap.size)
 (e : wx.grownBy wy (some w.heap.size)) : PicR w b P (.returned (.agg #[.int .i64 x, .int .i64 y, .slice a n c])) wy := by
 obtain ⟨q, hq1, hq2⟩ := r
 exact ⟨⟨x, y, zs⟩, a, c, n, rfl, s.int_len.symm, hn, h1, h2, h3, h4, s.grown e (fun u hu => by have := ha u hu; simp; omega), fun u hu => by have := ha u hu; omega, ⟨q, hq1, hq2.gr e (fun k hk => by cases hk; omega)⟩, grown_any g e (fun k hk => by cases hk; omega)⟩
theorem gr_set3 (w : World) (b : Nat) (x y z : Value) : w.grownBy (((w.setCell ⟨b, 0, none⟩ x).setCell ⟨b, 1, none⟩ y).setCell ⟨b, 2, none⟩ z) (some b) := grown_trans (grown_trans (gr_set _ _ _ _) (gr_set _ _ _ _)) (gr_set _ _ _ _)
theorem PH.sl {w wx : World} {b P k O g n c : Nat} {x y : Int} (h : PH w b P k O g n c x y wx) : ∃ zs : List Int, Sl wx (some ⟨g, 0, none⟩) n (zs.map (Value.int .i64)) := by
 obtain ⟨h1, h2, h3, ⟨zs, h4, h5⟩, h6, h7, h8⟩ := h
 exact ⟨zs, Sl.of_owns h5⟩
theorem Sl.tail {w : World} {g n : Nat} {zs : List Int} (h : Sl w (some ⟨g, 0, none⟩) n (zs.map (Value.int .i64))) (hn : 0 < n) : Sl w (some ⟨g, 1, none⟩) (n - 1) ((zs.drop 1).map (Value.int .i64)) := by
 have hl := h.int_len
 refine ⟨by simp; omega, fun i hi => ?_⟩
 obtain ⟨b, o, e, hc⟩ := h.int (i := i + 1) (by omega)
 simp only [Option.some.injEq, Addr.mk.injEq, and_true] at e
 obtain ⟨rfl, rfl⟩ := e
 refine ⟨g, 1, rfl, ?_⟩
 rw [Nat.zero_add, Nat.add_comm i 1] at hc
 rw [hc, getD_map_int _ _ _ (by simp; omega)]
 congr 2
 simp [nth, List.getElem?_drop, Nat.add_comm]
set_option maxRecDepth 100000 in
set_option maxHeartbeats 3000000 in
theorem l20Picture_c (b P : Nat) (m : Int) (w : World) (h : RdP w b P) (hp : P < 2^36) (hm0 : 0 ≤ m) (hm : m ≤ 1000000) :
 Calls Tryd.prog 85 #[.pointer (some ⟨b, 0, none⟩), .int .i64 m] w (PicR w b (P + 2100)) := by
 have hbw : b < w.heap.size := h.lt
 have e0 := Ext.alloc w (.cells #[.int .i64 0, .int .i64 0, .slice none 0 0] 25)
 have R0 := blk_new w (.cells #[.int .i64 0, .int .i64 0, .slice none 0 0] 25)
 go_enter Tryd.func85, Tryd.ntmps85
 go_wp2_with fail
 refine (l20Size_c b P _ (h.ext e0) (by omega)).mono ?_
 rintro e w1 ⟨W, rfl, hW, r1, g1⟩
 have R1 := blk_gr R0 g1 (by simp; omega)
 have G1 := grown_trans (ext_gr e0) g1
 clear R0 e0 g1 h
 go_wp2_with fail
 refine (l20Size_c b _ _ r1 (by omega)).mono ?_
 rintro e w2 ⟨H, rfl, hH, r2, g2⟩
 have R2 := blk_gr R1 g2 (by simp; omega)
 have G2 := grown_trans G1 g2
 clear R1 G1 r1 g2
 go_wp2_with fail
 refine (l20Pic_c b _ W H _ r2 (by omega) hW hH).mono ?_
 rintro e w3 ⟨a, c, n, zs, rfl, hn, hz, own3, r3, g3⟩
 have hpl := area_le hW hH
 have hn1 : 64 ≤ n ∧ n ≤ 1024 := by
  have : (n : Int) = (W : Int) * (H : Int) := by rw [hn]; simp
  omega
 obtain ⟨hw1, hw2, -⟩ := hW
 obtain ⟨hh1, hh2, -⟩ := hH
 obtain ⟨O, hO⟩ : ∃ O, O = w3.heap.size := ⟨_, rfl⟩
 have hR2 := lt_of_block R2
 have hgo : ∃ g, a = some ⟨g, 0, none⟩ ∧ g < O := by
  rcases own3.2 with ⟨-, h0⟩ | ⟨g, cc, cur, hv, -, hb, -⟩
  ·omega
  ·simp only [Value.slice.injEq] at hv
   exact ⟨g, hv.1, by rw [hO]; exact lt_of_block hb⟩
 obtain ⟨g, rfl, hgO⟩ := hgo
 have hcap := owns_cap own3
 have D4 : PH w b (P + 2002) 0 O g n c W H (w3.alloc (.cells #[.int .i64 W, .int .i64 H, .slice (some ⟨g, 0, none⟩) n c] 25)) := by
  have e4 := Ext.alloc w3 (.cells #[.int .i64 W, .int .i64 H, .slice (some ⟨g, 0, none⟩) n c] 25)
  refine ⟨⟨grown_ext (grown_trans G2 g3) e4, (r3.ext e4).mono (by omega)⟩, by rw [hO]; exact blk_new _ _, e4.blk (blk_gr R2 g3 (by simp; omega)), ⟨zs, by have := own3.1; simpa using this, owns_ext (owns_mono own3 (by omega)) e4⟩, hbw, ?_, hgO⟩
  have := g3.size
  omega
 clear own3 r3 g3 R2 G2 r2 hz hn hpl
 go_wp2_with fail
 rw [← hO]
 generalize w3.alloc (.cells #[.int .i64 W, .int .i64 H, .slice (some ⟨g, 0, none⟩) n c] 25) = w4 at *
 clear hO
 refine (odd_any b _ m _ D4.1.2 (by omega) hm0 (by omega)).mono ?_
 rintro e w5 ⟨x5, rfl, r5, g5⟩
 have D5 := (D4.more g5 r5 (Nat.le_refl _)).re (P' := P + 2003) (by omega)
 clear D4 r5 g5
 cases x5
 ·have hg := D5.g
  obtain ⟨ys, sy⟩ := D5.sl
  obtain ⟨-, k0, k1, k2, -⟩ := bx3 D5.2.1
  obtain ⟨-, r0, r1, r2, f0, f1, f2⟩ := bx3 D5.2.2.1
  have hres := blk_set3 (x' := .int .i64 W) (y' := .int .i64 H) (z' := .slice (some ⟨g, 0, none⟩) n c) D5.2.2.1
  go_wp2
  exact bodyPost_ret (v := .agg #[.int .i64 W, .int .i64 H, .slice (some ⟨g, 0, none⟩) n c]) (results_cell_row rfl _ _ w.heap.size 25 #[.int .i64 W, .int .i64 H, .slice (some ⟨g, 0, none⟩) n c] (0, 0) _ rfl hres Tryd.underlying25 rfl size_Picture) rfl
   (PicR.of hn1.2 (by omega) (by omega) (by omega) (by omega) sy (fun u hu => by cases hu; show w.heap.size < g; omega) (D5.1.2.mono (by omega)) D5.1.1 hbw (gr_set3 _ _ _ _ _))
 ·go_wp2_with fail
  refine (pick_c b _ 5 _ D5.1.2 (by omega) (by omega) (by omega)).mono ?_
  rintro e w6 ⟨x6, rfl, x6a, x6b, r6, g6⟩
  have D6 := (D5.more g6 r6 (Nat.le_refl _)).re (P' := P + 2004) (by omega)
  clear D5 r6 g6
  obtain rfl | rfl | rfl | rfl | rfl : x6 = 0 ∨ x6 = 1 ∨ x6 = 2 ∨ x6 = 3 ∨ x6 = 4 := by omega
  ·have e7 := Ext.alloc w6 (.cells #[.int .i64 0, .int .i64 7, .int .i64 12, .int .i64 40, .int .i64 (-8)] 3)
   have S7 := blk_new w6 (.cells #[.int .i64 0, .int .i64 7, .int .i64 12, .int .i64 40, .int .i64 (-8)] 3)
   have hs6 := D6.2.2.2.2
   have hO6 := lt_of_block D6.2.1
   have D7 := D6.ext0 e7
   clear D6 e7
   go_wp2_with fail
   refine (pick_c b _ 5 _ D7.1.2 (by omega) (by omega) (by omega)).mono ?_
   rintro e w8 ⟨x8, rfl, x8a, x8b, r8, g8⟩
   have S8 := blk_gr S7 g8 (by simp; omega)
   have D8 := (D7.more g8 r8 (Nat.le_refl _)).re (P' := P + 2006) (by omega)
   clear D7 r8 g8 S7
   have hv : ∃ v : Int, w8.cell? ⟨w6.heap.size, x8.toNat, none⟩ = some (.int .i64 v) ∧ -8 ≤ v ∧ v ≤ 40 := by
    obtain rfl | rfl | rfl | rfl | rfl : x8 = 0 ∨ x8 = 1 ∨ x8 = 2 ∨ x8 = 3 ∨ x8 = 4 := by omega
    ·exact ⟨0, by simp [World.cell?, S8], by omega, by omega⟩
    ·exact ⟨7, by simp [World.cell?, S8], by omega, by omega⟩
    ·exact ⟨12, by simp [World.cell?, S8], by omega, by omega⟩
    ·exact ⟨40, by simp [World.cell?, S8], by omega, by omega⟩
    ·exact ⟨(-8), by simp [World.cell?, S8], by omega, by omega⟩
   obtain ⟨v, hv1, hv2, hv3⟩ := hv
   obtain ⟨-, k0, k1, k2, f0, f1, f2⟩ := bx3 D8.2.1
   go_upto_region 14 with fail
   have D9 : PH w b (P + 2006) 0 O g n c v H (w8.setCell ⟨O, 0, none⟩ (.int .i64 v)) := by
    have hg := D8.g
    obtain ⟨q1, q2, q3, ⟨zs, q4, q5⟩, q6, q7, q8⟩ := D8
    have hx := heap_setCell_same w8 O 0 _ _ (.int .i64 v) q2
    exact ⟨q1.set (by omega) (by omega), by simpa using hx, blk_set_other q3 (by omega), ⟨zs, q4, q5.kept (gr_set _ _ _ _) (.inr (by simp [Value.ownBlock]; omega))⟩, q6, q7, q8⟩
   generalize w8.setCell ⟨O, 0, none⟩ (.int .i64 v) = w9 at *
   clear D8 k0 k1 k2 f0 f1 f2 hv1 S8
   have hg := D9.g
   obtain ⟨ys, sy⟩ := D9.sl
   obtain ⟨-, k0, k1, k2, -⟩ := bx3 D9.2.1
   obtain ⟨-, r0, r1, r2, f0, f1, f2⟩ := bx3 D9.2.2.1
   have hres := blk_set3 (x' := .int .i64 v) (y' := .int .i64 H) (z' := .slice (some ⟨g, 0, none⟩) n c) D9.2.2.1
   go_wp2
   exact bodyPost_ret (v := .agg #[.int .i64 v, .int .i64 H, .slice (some ⟨g, 0, none⟩) n c]) (results_cell_row rfl _ _ w.heap.size 25 #[.int .i64 v, .int .i64 H, .slice (some ⟨g, 0, none⟩) n c] (0, 0) _ rfl hres Tryd.underlying25 rfl size_Picture) rfl
    (PicR.of hn1.2 (by omega) (by omega) (by omega) (by omega) sy (fun u hu => by cases hu; show w.heap.size < g; omega) (D9.1.2.mono (by omega)) D9.1.1 hbw (gr_set3 _ _ _ _ _))
  ·have e7 := Ext.alloc w6 (.cells #[.int .i64 0, .int .i64 9, .int .i64 40] 3)
   have S7 := blk_new w6 (.cells #[.int .i64 0, .int .i64 9, .int .i64 40] 3)
   have hs6 := D6.2.2.2.2
   have hO6 := lt_of_block D6.2.1
   have D7 := D6.ext0 e7
   clear D6 e7
   go_wp2_with fail
   refine (pick_c b _ 3 _ D7.1.2 (by omega) (by omega) (by omega)).mono ?_
   rintro e w8 ⟨x8, rfl, x8a, x8b, r8, g8⟩
   have S8 := blk_gr S7 g8 (by simp; omega)
   have D8 := (D7.more g8 r8 (Nat.le_refl _)).re (P' := P + 2006) (by omega)
   clear D7 r8 g8 S7
   have hv : ∃ v : Int, w8.cell? ⟨w6.heap.size, x8.toNat, none⟩ = some (.int .i64 v) ∧ 0 ≤ v ∧ v ≤ 40 := by
    obtain rfl | rfl | rfl : x8 = 0 ∨ x8 = 1 ∨ x8 = 2 := by omega
    ·exact ⟨0, by simp [World.cell?, S8], by omega, by omega⟩
    ·exact ⟨9, by simp [World.cell?, S8], by omega, by omega⟩
    ·exact ⟨40, by simp [World.cell?, S8], by omega, by omega⟩
   obtain ⟨v, hv1, hv2, hv3⟩ := hv
   obtain ⟨-, k0, k1, k2, f0, f1, f2⟩ := bx3 D8.2.1
   go_upto_region 14 with fail
   have D9 : PH w b (P + 2006) 0 O g n c W v (w8.setCell ⟨O, 1, none⟩ (.int .i64 v)) := by
    have hg := D8.g
    obtain ⟨q1, q2, q3, ⟨zs, q4, q5⟩, q6, q7, q8⟩ := D8
    have hx := heap_setCell_same w8 O 1 _ _ (.int .i64 v) q2
    exact ⟨q1.set (by omega) (by omega), by simpa using hx, blk_set_other q3 (by omega), ⟨zs, q4, q5.kept (gr_set _ _ _ _) (.inr (by simp [Value.ownBlock]; omega))⟩, q6, q7, q8⟩
   generalize w8.setCell ⟨O, 1, none⟩ (.int .i64 v) = w9 at *
   clear D8 k0 k1 k2 f0 f1 f2 hv1 S8
   have hg := D9.g
   obtain ⟨ys, sy⟩ := D9.sl
   obtain ⟨-, k0, k1, k2, -⟩ := bx3 D9.2.1
   obtain ⟨-, r0, r1, r2, f0, f1, f2⟩ := bx3 D9.2.2.1
   have hres := blk_set3 (x' := .int .i64 W) (y' := .int .i64 v) (z' := .slice (some ⟨g, 0, none⟩) n c) D9.2.2.1
   go_wp2
   exact bodyPost_ret (v := .agg #[.int .i64 W, .int .i64 v, .slice (some ⟨g, 0, none⟩) n c]) (results_cell_row rfl _ _ w.heap.size 25 #[.int .i64 W, .int .i64 v, .slice (some ⟨g, 0, none⟩) n c] (0, 0) _ rfl hres Tryd.underlying25 rfl size_Picture) rfl
    (PicR.of hn1.2 (by omega) (by omega) (by omega) (by omega) sy (fun u hu => by cases hu; show w.heap.size < g; omega) (D9.1.2.mono (by omega)) D9.1.1 hbw (gr_set3 _ _ _ _ _))
  ·go_upto_region 11 with fail
   have hgg := D6.g
   have hext : ∀ (i : Nat) (own : Value) (ys : Nat → Value) (wa wb : World), wa.grownBy wb (some b) → (match i with | 0 => own = .pointer (some ⟨O, 2, none⟩) | 1 => own = .slice (some ⟨g, 0, none⟩) n c | 2 => own = .pointer (some ⟨b, 0, none⟩) | 3 => own = .pointer (some ⟨O, 2, none⟩) | 4 => own = .slice (some ⟨g, 0, none⟩) n c | 5 => own = .int .i64 n | 6 => ∃ x : Nat, own = .int .i64 x ∧ x < n | 7 => SlR wa (g + 1) own 2 (-1) (256) | 8 => own = .pointer (some ⟨b, 0, none⟩) | 9 => ∃ x : Int, own = .int .i64 x ∧ 0 ≤ x ∧ x < 2 | 10 => PtR wa (g + 1) own (-1) (256) | 11 => ∃ x : Int, own = .int .i64 x ∧ -1 ≤ x ∧ x ≤ 256 | 12 => ∃ x : Nat, own = .pointer (some ⟨g, x, none⟩) ∧ x < n | 13 => True | _ => True) → (match i with | 0 => own = .pointer (some ⟨O, 2, none⟩) | 1 => own = .slice (some ⟨g, 0, none⟩) n c | 2 => own = .pointer (some ⟨b, 0, none⟩) | 3 => own = .pointer (some ⟨O, 2, none⟩) | 4 => own = .slice (some ⟨g, 0, none⟩) n c | 5 => own = .int .i64 n | 6 => ∃ x : Nat, own = .int .i64 x ∧ x < n | 7 => SlR wb (g + 1) own 2 (-1) (256) | 8 => own = .pointer (some ⟨b, 0, none⟩) | 9 => ∃ x : Int, own = .int .i64 x ∧ 0 ≤ x ∧ x < 2 | 10 => PtR wb (g + 1) own (-1) (256) | 11 => ∃ x : Int, own = .int .i64 x ∧ -1 ≤ x ∧ x ≤ 256 | 12 => ∃ x : Nat, own = .pointer (some ⟨g, x, none⟩) ∧ x < n | 13 => True | _ => True) := by
    intro i own ys wa wb e h
    match i, h with
    | 0, h => exact h
    | 1, h => exact h
    | 2, h => exact h
    | 3, h => exact h
    | 4, h => exact h
    | 5, h => exact h
    | 6, h => exact h
    | 7, h => exact h.grown e (by omega)
    | 8, h => exact h
    | 9, h => exact h
    | 10, h => exact h.grown e (by omega)
    | 11, h => exact h
    | 12, h => exact h
    | 13, h => exact h
    | _ + 14, _ => trivial
   have Hext := Lib.hid hext
   clear hext
   refine wp_region_inv2 (by kernel_rfl) [(38, 0), (39, 1), (40, 2), (41, 3), (42, 4), (43, 5), (44, 6), (45, 7), (46, 8), (47, 9), (48, 10), (49, 11), (50, 12)] [[], [0], [], [], [3], [3, 4], [2, 3, 4, 5], [], [], [2, 3, 4, 5, 6, 8], [2, 3, 4, 5, 6, 7, 8, 9], [2, 3, 4, 5, 6, 7, 8, 9, 10], [0, 1, 2, 3, 4, 5, 6, 7, 8, 9, 10, 11], [0, 1, 2, 3, 4, 5, 6, 7, 8, 9, 10, 11, 12]] (fun i own ys wx => match i with | 0 => own = .pointer (some ⟨O, 2, none⟩) | 1 => own = .slice (some ⟨g, 0, none⟩) n c | 2 => own = .pointer (some ⟨b, 0, none⟩) | 3 => own = .pointer (some ⟨O, 2, none⟩) | 4 => own = .slice (some ⟨g, 0, none⟩) n c | 5 => own = .int .i64 n | 6 => ∃ x : Nat, own = .int .i64 x ∧ x < n | 7 => SlR wx (g + 1) own 2 (-1) (256) | 8 => own = .pointer (some ⟨b, 0, none⟩) | 9 => ∃ x : Int, own = .int .i64 x ∧ 0 ≤ x ∧ x < 2 | 10 => PtR wx (g + 1) own (-1) (256) | 11 => ∃ x : Int, own = .int .i64 x ∧ -1 ≤ x ∧ x ≤ 256 | 12 => ∃ x : Nat, own = .pointer (some ⟨g, x, none⟩) ∧ x < n | 13 => True | _ => True) (fun kx wx => PH w b (P + 2010) kx O g n c W H wx) (by kernel_rfl) (by kernel_rfl) (by kernel_rfl) ?g0_r1 ?gop_r1 ?gend_r1
   case g0_r1 => exact (D6.re (P' := P + 2010) (by omega)).drew
   case gop_r1 =>
    refine ⟨?_, ?_, ?_, ?_, ?_, ?_, ?_, ?_, ?_, ?_, ?_, ?_, ?_, ?_, trivial⟩
    ·intro kx xs wx hk hG hD hI Qo Kx hK hQo
     clear hD hI
     simp only [patchS, Nat.reduceAdd, Nat.reduceEqDiff, ↓reduceIte] at hQo ⊢
     go_wp2
     exact hK.out _ _ ⟨rfl, hG.step, fun _ _ _ _ _ _ h => h⟩
    ·intro kx xs wx hk hG hD hI Qo Kx hK hQo
     have d0 : (xs 0) = .pointer (some ⟨O, 2, none⟩) := hD 0 rfl
     clear hD hI
     simp only [patchS, Nat.reduceAdd, Nat.reduceEqDiff, ↓reduceIte] at hQo ⊢
     generalize xs 0 = y0 at *
     subst d0
     obtain ⟨-, k0, k1, k2, -⟩ := bx3 hG.2.1
     go_wp2
     exact hK.out _ _ ⟨rfl, hG.step, fun _ _ _ _ _ _ h => h⟩
    ·intro kx xs wx hk hG hD hI Qo Kx hK hQo
     clear hD hI
     simp only [patchS, Nat.reduceAdd, Nat.reduceEqDiff, ↓reduceIte] at hQo ⊢
     go_wp2
     exact hK.out _ _ ⟨rfl, hG.step, fun _ _ _ _ _ _ h => h⟩
    ·intro kx xs wx hk hG hD hI Qo Kx hK hQo
     clear hD hI
     simp only [patchS, Nat.reduceAdd, Nat.reduceEqDiff, ↓reduceIte] at hQo ⊢
     go_wp2
     exact hK.out _ _ ⟨rfl, hG.step, fun _ _ _ _ _ _ h => h⟩
    ·intro kx xs wx hk hG hD hI Qo Kx hK hQo
     have d3 : (xs 3) = .pointer (some ⟨O, 2, none⟩) := hD 3 rfl
     clear hD hI
     simp only [patchS, Nat.reduceAdd, Nat.reduceEqDiff, ↓reduceIte] at hQo ⊢
     generalize xs 3 = y3 at *
     subst d3
     obtain ⟨-, k0, k1, k2, -⟩ := bx3 hG.2.1
     go_wp2
     exact hK.out _ _ ⟨rfl, hG.step, fun _ _ _ _ _ _ h => h⟩
    ·intro kx xs wx hk hG hD hI Qo Kx hK hQo
     have d4 : (xs 4) = .slice (some ⟨g, 0, none⟩) n c := hD 4 rfl
     clear hD hI
     simp only [patchS, Nat.reduceAdd, Nat.reduceEqDiff, ↓reduceIte] at hQo ⊢
     generalize xs 4 = y4 at *
     subst d4
     go_wp2
     exact hK.out _ _ ⟨rfl, hG.step, fun _ _ _ _ _ _ h => h⟩
    ·intro kx xs wx hk hG hD hI Qo Kx hK hQo
     have d2 : (xs 2) = .pointer (some ⟨b, 0, none⟩) := hD 2 rfl
     have d5 : (xs 5) = .int .i64 n := hD 5 rfl
     clear hD hI
     simp only [patchS, Nat.reduceAdd, Nat.reduceEqDiff, ↓reduceIte] at hQo ⊢
     generalize xs 2 = y2 at *
     generalize xs 5 = y5 at *
     subst d2 d5
     go_wp2_with fail
     refine (pick_c b _ n _ hG.1.2 (DG.small hk (by decide) (by decide) (by omega)) (by omega) (by omega)).mono ?_
     rintro e w4 ⟨xx, rfl, xa, xb, rd, gr⟩
     obtain ⟨xn, rfl⟩ := Int.eq_ofNat_of_zero_le xa
     go_wp2
     exact hK.out _ _ ⟨⟨xn, rfl, by omega⟩, hG.more gr rd (by decide), fun i _ _ _ own ys h => Hext.out i own ys _ _ gr h⟩
    ·intro kx xs wx hk hG hD hI Qo Kx hK hQo
     clear hD hI
     simp only [patchS, Nat.reduceAdd, Nat.reduceEqDiff, ↓reduceIte] at hQo ⊢
     have e5 := Ext.alloc wx (.cells #[.int .i64 (-1), .int .i64 256] 3)
     go_wp2
     exact hK.out _ _ ⟨⟨_, [(-1), 256], rfl, by have := lt_of_block hG.2.1; omega, Sl_new _ _ _, by simp <;> omega⟩, hG.ext e5, fun i _ _ _ own ys h => Hext.out i own ys _ _ (ext_gr e5) h⟩
    ·intro kx xs wx hk hG hD hI Qo Kx hK hQo
     clear hD hI
     simp only [patchS, Nat.reduceAdd, Nat.reduceEqDiff, ↓reduceIte] at hQo ⊢
     go_wp2
     exact hK.out _ _ ⟨rfl, hG.step, fun _ _ _ _ _ _ h => h⟩
    ·intro kx xs wx hk hG hD hI Qo Kx hK hQo
     have d8 : (xs 8) = .pointer (some ⟨b, 0, none⟩) := hD 8 rfl
     clear hD hI
     simp only [patchS, Nat.reduceAdd, Nat.reduceEqDiff, ↓reduceIte] at hQo ⊢
     generalize xs 8 = y8 at *
     subst d8
     go_wp2_with fail
     refine (pick_c _ _ _ _ hG.1.2 (DG.small hk (by decide) (by decide) (by omega)) (by omega) (by omega)).mono ?_
     rintro e w4 ⟨xx, rfl, xa, xb, rd, gr⟩
     go_wp2
     exact hK.out _ _ ⟨⟨xx, rfl, xa, by omega⟩, hG.more gr rd (by decide), fun i _ _ _ own ys h => Hext.out i own ys _ _ gr h⟩
    ·intro kx xs wx hk hG hD hI Qo Kx hK hQo
     have d7 : SlR wx (g + 1) (xs 7) 2 (-1) (256) := hD 7 rfl
     have d9 : ∃ x : Int, (xs 9) = .int .i64 x ∧ 0 ≤ x ∧ x < 2 := hD 9 rfl
     clear hD hI
     simp only [patchS, Nat.reduceAdd, Nat.reduceEqDiff, ↓reduceIte] at hQo ⊢
     generalize xs 7 = y7 at *
     generalize xs 9 = y9 at *
     obtain ⟨g7, l7, rfl, n7, s7, r7⟩ := d7
     obtain ⟨x9, rfl, x9a, x9b⟩ := d9
     go_wp2
     exact hK.out _ _ ⟨SlR.at n7 s7 r7 (by omega), hG.step, fun _ _ _ _ _ _ h => h⟩
    ·intro kx xs wx hk hG hD hI Qo Kx hK hQo
     have d10 : PtR wx (g + 1) (xs 10) (-1) (256) := hD 10 rfl
     clear hD hI
     simp only [patchS, Nat.reduceAdd, Nat.reduceEqDiff, ↓reduceIte] at hQo ⊢
     generalize xs 10 = y10 at *
     obtain ⟨g10, j10, y10, rfl, n10, c10, y10a, y10b⟩ := d10
     go_wp2
     exact hK.out _ _ ⟨⟨_, rfl, by omega, by omega⟩, hG.step, fun _ _ _ _ _ _ h => h⟩
    ·intro kx xs wx hk hG hD hI Qo Kx hK hQo
     have d1 : (xs 1) = .slice (some ⟨g, 0, none⟩) n c := hD 1 rfl
     have d6 : ∃ x : Nat, (xs 6) = .int .i64 x ∧ x < n := hD 6 rfl
     clear hD hI
     simp only [patchS, Nat.reduceAdd, Nat.reduceEqDiff, ↓reduceIte] at hQo ⊢
     generalize xs 1 = y1 at *
     generalize xs 6 = y6 at *
     subst d1
     obtain ⟨x6, rfl, x6a⟩ := d6
     go_wp2
     exact hK.out _ _ ⟨⟨_, rfl, by omega⟩, hG.step, fun _ _ _ _ _ _ h => h⟩
    ·intro kx xs wx hk hG hD hI Qo Kx hK hQo
     have d11 : ∃ x : Int, (xs 11) = .int .i64 x ∧ -1 ≤ x ∧ x ≤ 256 := hD 11 rfl
     have d12 : ∃ x : Nat, (xs 12) = .pointer (some ⟨g, x, none⟩) ∧ x < n := hD 12 rfl
     clear hD hI
     simp only [patchS, Nat.reduceAdd, Nat.reduceEqDiff, ↓reduceIte] at hQo ⊢
     generalize xs 11 = y11 at *
     generalize xs 12 = y12 at *
     obtain ⟨x11, rfl, x11a, x11b⟩ := d11
     obtain ⟨x12, rfl, x12a⟩ := d12
     obtain ⟨u1, c1', f1⟩ := hG.cell x12a
     go_wp2
     have hst : ∀ (wy : World), (∀ (v : Value) (lo hi : Int), (PtR wx (g + 1) v lo hi → PtR wy (g + 1) v lo hi) ∧ (SlR wx (g + 1) v 2 lo hi → SlR wy (g + 1) v 2 lo hi)) → ∀ (ii : Nat), ii < 14 → ii ≠ 13 → ([[], [0], [], [], [3], [3, 4], [2, 3, 4, 5], [], [], [2, 3, 4, 5, 6, 8], [2, 3, 4, 5, 6, 7, 8, 9], [2, 3, 4, 5, 6, 7, 8, 9, 10], [0, 1, 2, 3, 4, 5, 6, 7, 8, 9, 10, 11], [0, 1, 2, 3, 4, 5, 6, 7, 8, 9, 10, 11, 12]].getD ii []).contains 13 = false → ∀ (own : Value) (ys : Nat → Value), (match ii with | 0 => own = .pointer (some ⟨O, 2, none⟩) | 1 => own = .slice (some ⟨g, 0, none⟩) n c | 2 => own = .pointer (some ⟨b, 0, none⟩) | 3 => own = .pointer (some ⟨O, 2, none⟩) | 4 => own = .slice (some ⟨g, 0, none⟩) n c | 5 => own = .int .i64 n | 6 => ∃ x : Nat, own = .int .i64 x ∧ x < n | 7 => SlR wx (g + 1) own 2 (-1) (256) | 8 => own = .pointer (some ⟨b, 0, none⟩) | 9 => ∃ x : Int, own = .int .i64 x ∧ 0 ≤ x ∧ x < 2 | 10 => PtR wx (g + 1) own (-1) (256) | 11 => ∃ x : Int, own = .int .i64 x ∧ -1 ≤ x ∧ x ≤ 256 | 12 => ∃ x : Nat, own = .pointer (some ⟨g, x, none⟩) ∧ x < n | 13 => True | _ => True) → (match ii with | 0 => own = .pointer (some ⟨O, 2, none⟩) | 1 => own = .slice (some ⟨g, 0, none⟩) n c | 2 => own = .pointer (some ⟨b, 0, none⟩) | 3 => own = .pointer (some ⟨O, 2, none⟩) | 4 => own = .slice (some ⟨g, 0, none⟩) n c | 5 => own = .int .i64 n | 6 => ∃ x : Nat, own = .int .i64 x ∧ x < n | 7 => SlR wy (g + 1) own 2 (-1) (256) | 8 => own = .pointer (some ⟨b, 0, none⟩) | 9 => ∃ x : Int, own = .int .i64 x ∧ 0 ≤ x ∧ x < 2 | 10 => PtR wy (g + 1) own (-1) (256) | 11 => ∃ x : Int, own = .int .i64 x ∧ -1 ≤ x ∧ x ≤ 256 | 12 => ∃ x : Nat, own = .pointer (some ⟨g, x, none⟩) ∧ x < n | 13 => True | _ => True) := by
      intro wy hy ii hii hne hc own ys h
      match ii, h with
      | 0, h => exact h
      | 1, h => exact h
      | 2, h => exact h
      | 3, h => exact h
      | 4, h => exact h
      | 5, h => exact h
      | 6, h => exact h
      | 7, h => exact (hy _ _ _).2 h
      | 8, h => exact h
      | 9, h => exact h
      | 10, h => exact (hy _ _ _).1 h
      | 11, h => exact h
      | 12, h => exact h
      | 13, h => exact absurd rfl hne
      | _ + 14, _ => trivial
     exact hQo undef _ (hK.out _ _ ⟨trivial, (hG.set _ _).step, hst _ (fun v lo hi => ⟨fun h => h.set (by omega), fun h => h.set (by omega)⟩)⟩)
   clear Hext
   intro xs wx hV hG
   have d0 : (xs 0) = .pointer (some ⟨O, 2, none⟩) := hV 0 (by decide)
   have d1 : (xs 1) = .slice (some ⟨g, 0, none⟩) n c := hV 1 (by decide)
   have d2 : (xs 2) = .pointer (some ⟨b, 0, none⟩) := hV 2 (by decide)
   have d3 : (xs 3) = .pointer (some ⟨O, 2, none⟩) := hV 3 (by decide)
   have d4 : (xs 4) = .slice (some ⟨g, 0, none⟩) n c := hV 4 (by decide)
   have d5 : (xs 5) = .int .i64 n := hV 5 (by decide)
   have d6 : ∃ x : Nat, (xs 6) = .int .i64 x ∧ x < n := hV 6 (by decide)
   have d7 : SlR wx (g + 1) (xs 7) 2 (-1) (256) := hV 7 (by decide)
   have d8 : (xs 8) = .pointer (some ⟨b, 0, none⟩) := hV 8 (by decide)
   have d9 : ∃ x : Int, (xs 9) = .int .i64 x ∧ 0 ≤ x ∧ x < 2 := hV 9 (by decide)
   have d10 : PtR wx (g + 1) (xs 10) (-1) (256) := hV 10 (by decide)
   have d11 : ∃ x : Int, (xs 11) = .int .i64 x ∧ -1 ≤ x ∧ x ≤ 256 := hV 11 (by decide)
   have d12 : ∃ x : Nat, (xs 12) = .pointer (some ⟨g, x, none⟩) ∧ x < n := hV 12 (by decide)
   clear hV
   simp only [patchS, Nat.reduceAdd, Nat.reduceEqDiff, ↓reduceIte]
   generalize xs 0 = y0 at *
   generalize xs 1 = y1 at *
   generalize xs 2 = y2 at *
   generalize xs 3 = y3 at *
   generalize xs 4 = y4 at *
   generalize xs 5 = y5 at *
   generalize xs 6 = y6 at *
   generalize xs 7 = y7 at *
   generalize xs 8 = y8 at *
   generalize xs 9 = y9 at *
   generalize xs 10 = y10 at *
   generalize xs 11 = y11 at *
   generalize xs 12 = y12 at *
   generalize xs 13 = y13 at *
   replace hG : PH w b (P + 2010) 14 O g n c W H wx := hG
   clear d0 d2 d3 d4 d5 d6 d7 d8 d9 d10 d11 d12
   subst d1
   have hg := hG.g
   obtain ⟨ys, sy⟩ := hG.sl
   obtain ⟨-, k0, k1, k2, -⟩ := bx3 hG.2.1
   obtain ⟨-, r0, r1, r2, f0, f1, f2⟩ := bx3 hG.2.2.1
   have hres := blk_set3 (x' := .int .i64 W) (y' := .int .i64 H) (z' := .slice (some ⟨g, 0, none⟩) n c) hG.2.2.1
   go_wp2
   exact bodyPost_ret (v := .agg #[.int .i64 W, .int .i64 H, .slice (some ⟨g, 0, none⟩) n c]) (results_cell_row rfl _ _ w.heap.size 25 #[.int .i64 W, .int .i64 H, .slice (some ⟨g, 0, none⟩) n c] (0, 0) _ rfl hres Tryd.underlying25 rfl size_Picture) rfl
    (PicR.of hn1.2 (by omega) (by omega) (by omega) (by omega) sy (fun u hu => by cases hu; show w.heap.size < g; omega) (hG.1.2.mono (by omega)) hG.1.1 hbw (gr_set3 _ _ _ _ _))
  ·obtain ⟨-, k0, k1, k2, f0, f1, f2⟩ := bx3 D6.2.1
   have hne : ¬ c = 1 := by omega
   go_upto_region 14 with fail
   obtain ⟨ys, sy⟩ := D6.sl
   have hg := D6.g
   have hx := heap_setCell_same w6 O 2 _ _ (.slice (some ⟨g, 1, none⟩) (n - 1) (c - 1)) D6.2.1
   have B9 : (w6.setCell ⟨O, 2, none⟩ (.slice (some ⟨g, 1, none⟩) (n - 1) (c - 1))).heap[O]? = some (.cells #[.int .i64 W, .int .i64 H, .slice (some ⟨g, 1, none⟩) (n - 1) (c - 1)] 25 (0, 0)) := by simpa using hx
   have s9 := Sl.tail (sy.grown (gr_set w6 O 2 (.slice (some ⟨g, 1, none⟩) (n - 1) (c - 1))) (fun u hu => by cases hu; simp; omega)) (by omega)
   have r9 : RdP (w6.setCell ⟨O, 2, none⟩ (.slice (some ⟨g, 1, none⟩) (n - 1) (c - 1))) b (P + 2004) := D6.1.2.set (by have := D6.2.2.2.2; omega)
   have g9 := grown_any D6.1.1 (gr_set w6 O 2 (.slice (some ⟨g, 1, none⟩) (n - 1) (c - 1))) (fun k hk => by cases hk; have := D6.2.2.2.2; omega)
   have q9 : (w6.setCell ⟨O, 2, none⟩ (.slice (some ⟨g, 1, none⟩) (n - 1) (c - 1))).heap[w.heap.size]? = _ := blk_set_other D6.2.2.1 (by have := D6.2.2.2.2; omega)
   generalize w6.setCell ⟨O, 2, none⟩ (.slice (some ⟨g, 1, none⟩) (n - 1) (c - 1)) = w9 at *
   clear k0 k1 k2 f0 f1 f2 D6 hx sy
   obtain ⟨-, k0, k1, k2, -⟩ := bx3 B9
   obtain ⟨-, r0, r1, r2, f0, f1, f2⟩ := bx3 q9
   have hres := blk_set3 (x' := .int .i64 W) (y' := .int .i64 H) (z' := .slice (some ⟨g, 1, none⟩) (n - 1) (c - 1)) q9
   go_wp2
   exact bodyPost_ret (v := .agg #[.int .i64 W, .int .i64 H, .slice (some ⟨g, 1, none⟩) (n - 1) (c - 1)]) (results_cell_row rfl _ _ w.heap.size 25 #[.int .i64 W, .int .i64 H, .slice (some ⟨g, 1, none⟩) (n - 1) (c - 1)] (0, 0) _ rfl hres Tryd.underlying25 rfl size_Picture) rfl
    (PicR.of (by omega) (by omega) (by omega) (by omega) (by omega) s9 (fun u hu => by cases hu; show w.heap.size < g; omega) (r9.mono (by omega)) g9 hbw (gr_set3 _ _ _ _ _))
  ·have hg := D6.g
   obtain ⟨-, r0, r1, r2, f0, f1, f2⟩ := bx3 D6.2.2.1
   have hres := blk_set3 (x' := .int .i64 0) (y' := .int .i64 0) (z' := .slice none 0 0) D6.2.2.1
   go_wp2
   exact bodyPost_ret (v := .agg #[.int .i64 0, .int .i64 0, .slice none 0 0]) (results_cell_row rfl _ _ w.heap.size 25 #[.int .i64 0, .int .i64 0, .slice none 0 0] (0, 0) _ rfl hres Tryd.underlying25 rfl size_Picture) rfl
    (PicR.of (wx := w6) (zs := []) (by omega) (by omega) (by omega) (by omega) (by omega) (Sl.nil _ _) (fun u hu => by cases hu) (D6.1.2.mono (by omega)) D6.1.1 hbw (gr_set3 _ _ _ _ _))
end Go.Proofs.YtbnhaegidfbgbaaDoor
namespace Go.Proofs.YtbnhaegidfbgbaaDoor
open Go.RowKit
set_option maxHeartbeats 1000000
section
variable {P : Program}
end
/-- A block of integers is not the reader's data. -/
theorem RdP.grI {w w' : World} {b P r T : Nat} {zs : List Int} (h : RdP w b P) (i : IB w r T zs) (g : w.grownBy w' (some r)) (hne : r ≠ b) : RdP w' b P := by
 obtain ⟨p, hp, a, m, c, ds, h1, h2, h3, h4, h5⟩ := h
 refine ⟨p, hp, a, m, c, ds, by rw [g.block b (lt_of_block h1) (by simp; omega)]; exact h1, h2, ?_, h4, h5⟩
 by_cases hm : m = 0
 ·subst hm
  exact ⟨h3.1, fun i hi => by omega⟩
 ·refine h3.grown g (fun x hx e => ?_)
  obtain ⟨b1, o1, h6, h7⟩ := h3.int (show 0 < m by omega)
  rw [hx] at h6
  simp at h6 e
  subst h6
  simp at e
  subst e
  unfold IB at i
  simp [World.cell?, i, ic] at h7
theorem Mac.of {zs : List Int} (h : zs.length = 71) : ∃ m : Mac, m.ok ∧ m.zs = zs := by
 match zs, h with
 | a :: b :: c :: t, h =>
  refine ⟨⟨a, b, c, t.take 4, t.drop 4⟩, ⟨by simp at h ⊢; omega, by simp at h ⊢; omega⟩, ?_⟩
  simp [Mac.zs]
/-- What holds while the arguments of RowsRead are drawn. -/
def RGd (w : World) (b P k q : Nat) (wx : World) : Prop := DG w b P 1 k wx ∧ IQ 10000 wx q 34 71 ∧ IQ 10000 wx w.heap.size 34 71 ∧ w.heap.size < b ∧ b < q
theorem RGd.step {w wx : World} {b P k q : Nat} (h : RGd w b P k q wx) : RGd w b P (k + 1) q wx := ⟨h.1.step, h.2⟩
theorem RGd.more {w wx wy : World} {b P k q : Nat} (h : RGd w b P k q wx) (e : wx.grownBy wy (some b)) (r : RdP wy b (P + k * 1 + 1)) (_ : 1 ≤ 1) : RGd w b P (k + 1) q wy := ⟨h.1.more e r (Nat.le_refl _), h.2.1.gr e (by have := h.2.2.2; omega), h.2.2.1.gr e (by have := h.2.2.2; omega), h.2.2.2⟩
theorem RGd.drew {w wx : World} {b P k q : Nat} (h : RGd w b P k q wx) : RGd w b P k q wx.drew := ⟨h.1.drew, h.2.1.ext (Ext.drewN _ 1), h.2.2.1.ext (Ext.drewN _ 1), h.2.2.2⟩
theorem RGd.re {w wx : World} {b P k q P' : Nat} (h : RGd w b P k q wx) (hP : P + k ≤ P') : RGd w b P' 0 q wx := ⟨h.1.reset (by omega) 1, h.2⟩
theorem RGd.set {w wx : World} {b P k q : Nat} (h : RGd w b P k q wx) (i : Nat) (v : Int) (h1 : -10000 ≤ v) (h2 : v ≤ 10000) : RGd w b P k q (wx.setCell ⟨q, i, none⟩ (.int .i64 v)) :=
 ⟨h.1.set (by have := h.2.2.2; omega) h.2.2.2.2, h.2.1.set i v h1 h2, h.2.2.1.set_other (by have := h.2.2.2; omega), h.2.2.2⟩
theorem RGd.put {w wx wy : World} {b P k q : Nat} {zs : List Int} (h : RGd w b P k q wx) (g : wx.grownBy wy (some w.heap.size)) (p : IB wy w.heap.size 34 zs) (hl : zs.length = 71) (hz : bdI 10000 zs) : RGd w b P k q wy := by
 obtain ⟨r0, z1, -⟩ := id h.2.2.1
 exact ⟨⟨gr_new h.1.1 g (Nat.le_refl _), h.1.2.grI z1 g (by have := h.2.2.2; omega)⟩, h.2.1.gr g (by have := h.2.2.2; omega), ⟨zs, p, hl, hz⟩, h.2.2.2⟩
theorem RGd.cell {w wx : World} {b P k q : Nat} (h : RGd w b P k q wx) {i : Nat} (hi : i < 71) : ∃ v : Int, wx.cell? ⟨q, i, none⟩ = some (.int .i64 v) ∧ wx.frozen? ⟨q, i, none⟩ = false ∧ -10000 ≤ v ∧ v ≤ 10000 := h.2.1.cell hi
theorem RGd.lift {w wx : World} {b P k q : Nat} (h : RGd w b P k q wx) : Ext w wx := Ext.grown (Below.refl _ _) h.1.1 (fun k hk => by have := h.2.2.2; simp at hk; omega)
theorem IQ.of {B : Int} {w : World} {q T n : Nat} (h : IQ B w q T n) : ∃ zs, IB w q T zs ∧ zs.length = n ∧ bdI B zs := h
end Go.Proofs.YtbnhaegidfbgbaaDoor
namespace Go.Proofs.YtbnhaegidfbgbaaDoor
open Go.RowKit
set_option maxHeartbeats 1000000
theorem l20Q_c (b P : Nat) (n : Int) (w : World) (h : RdP w b P) (hp : P < 2^38) (hn0 : 0 ≤ n) (hn : n ≤ 1000000) :
 Calls Tryd.prog 37 #[.pointer (some ⟨b, 0, none⟩), .int .i64 n] w fun e w' => ∃ x : Int, e = .returned (.int .i64 x) ∧ -1 ≤ x ∧ x ≤ 16 ∧ RdP w' b (P + 4) ∧ w.grownBy w' (some b) := by
 have hbw : b < w.heap.size := h.lt
 go_enter Tryd.func37, Tryd.ntmps37
 go_wp2_with fail
 refine (odd_any b _ n _ h (by omega) hn0 (by omega)).mono ?_
 rintro e w1 ⟨x1, rfl, r1, g1⟩
 clear h
 cases x1
 ·go_wp2_with fail
  refine (pick_c b _ 16 _ r1 (by omega) (by omega) (by omega)).mono ?_
  rintro e w2 ⟨x2, rfl, x2a, x2b, r2, g2⟩
  go_wp2_with fail
  refine (pick_c b _ 5 _ r2 (by omega) (by omega) (by omega)).mono ?_
  rintro e w3 ⟨x3, rfl, x3a, x3b, r3, g3⟩
  have e4 := Ext.alloc w3 (.cells #[.int .i64 x2, .int .i64 x3] 3)
  have S4 := blk_new w3 (.cells #[.int .i64 x2, .int .i64 x3] 3)
  have r4 := r3.ext e4
  have g4 := grown_ext (grown_trans (grown_trans g1 g2) g3) e4
  have hb3 := r3.lt
  clear r1 r2 r3 g1 g2 g3 e4
  go_wp2_with fail
  refine (pick_c b _ 2 _ r4 (by omega) (by omega) (by omega)).mono ?_
  rintro e w5 ⟨x5, rfl, x5a, x5b, r5, g5⟩
  have S5 := gr_blk g5 S4 (by omega)
  obtain ⟨-, s0, s1, -, -⟩ := bx2 S5
  have g6 := grown_trans g4 g5
  clear S4 S5 g4 g5 r4
  obtain rfl | rfl : x5 = 0 ∨ x5 = 1 := by omega
  ·go_wp2
   go_ret
   exact ⟨x2, rfl, by omega, by omega, r5.mono (by omega), g6⟩
  ·go_wp2
   go_ret
   exact ⟨x3, rfl, by omega, by omega, r5.mono (by omega), g6⟩
 ·have e2 := Ext.alloc w1 (.cells #[.int .i64 (-1), .int .i64 16] 3)
  have S2 := blk_new w1 (.cells #[.int .i64 (-1), .int .i64 16] 3)
  have r2 := r1.ext e2
  have g2 := grown_ext g1 e2
  have hb3 := r1.lt
  clear r1 g1 e2
  go_wp2_with fail
  refine (pick_c b _ 2 _ r2 (by omega) (by omega) (by omega)).mono ?_
  rintro e w5 ⟨x5, rfl, x5a, x5b, r5, g5⟩
  have S5 := gr_blk g5 S2 (by omega)
  obtain ⟨-, s0, s1, -, -⟩ := bx2 S5
  have g6 := grown_trans g2 g5
  clear S2 S5 g2 g5 r2
  obtain rfl | rfl : x5 = 0 ∨ x5 = 1 := by omega
  ·go_wp2
   go_ret
   exact ⟨-1, rfl, by omega, by omega, r5.mono (by omega), g6⟩
  ·go_wp2
   go_ret
   exact ⟨16, rfl, by omega, by omega, r5.mono (by omega), g6⟩
end Go.Proofs.YtbnhaegidfbgbaaDoor
namespace Go.Proofs.YtbnhaegidfbgbaaDoor
open Go.RowKit
set_option maxHeartbeats 1000000
theorem RdP.setP {w : World} {b P q j : Nat} {x y : Int} {a : Option Addr} {n c : Nat} {v : Value} {T : TypeId} (h : RdP w b P) (hg : w.heap[q]? = some (.cells #[.int .i64 x, .int .i64 y, .slice a n c] T (0, 0))) (hne : q ≠ b) : RdP (w.setCell ⟨q, j, none⟩ v) b P := by
 obtain ⟨p, hp, h1⟩ := h
 refine ⟨p, hp, h1.setG hg (fun i z hz => ?_) hne⟩
 match i, hz with
 | 0, hz => simp at hz
 | 1, hz => simp at hz
 | 2, hz => simp at hz
 | i + 3, hz => simp at hz
theorem RdP.setP3 {w : World} {b P q : Nat} {x y x' y' : Int} {a a' : Option Addr} {n c n' c' : Nat} {T : TypeId} (h : RdP w b P) (hg : w.heap[q]? = some (.cells #[.int .i64 x, .int .i64 y, .slice a n c] T (0, 0))) (hne : q ≠ b) :
 RdP (((w.setCell ⟨q, 0, none⟩ (.int .i64 x')).setCell ⟨q, 1, none⟩ (.int .i64 y')).setCell ⟨q, 2, none⟩ (.slice a' n' c')) b P := by
 have h1 := heap_setCell_same w q 0 _ _ (.int .i64 x') hg
 have h2 := heap_setCell_same _ q 1 _ _ (.int .i64 y') h1
 exact ((h.setP hg hne).setP (x := x') (y := y) (a := a) (n := n) (c := c) (by simpa using h1) hne).setP (x := x') (y := y') (a := a) (n := n) (c := c) (by simpa using h2) hne
/-- A picture's box. -/
def PBx (w : World) (b : Nat) (p : Pic) (a : Option Addr) (n c : Nat) : Prop := w.heap[b]? = some (.cells #[.int .i64 p.w, .int .i64 p.h, .slice a n c] 25 (0, 0))
theorem PBx.cells {w : World} {b : Nat} {p : Pic} {a : Option Addr} {n c : Nat} (h : PBx w b p a n c) : w.cell? ⟨b, 0, none⟩ = some (.int .i64 p.w) ∧ w.cell? ⟨b, 1, none⟩ = some (.int .i64 p.h) ∧ w.cell? ⟨b, 2, none⟩ = some (.slice a n c) := by
 obtain ⟨-, h0, h1, h2, -⟩ := bx3 h
 exact ⟨h0, h1, h2⟩
end Go.Proofs.YtbnhaegidfbgbaaDoor
namespace Go.Proofs.YtbnhaegidfbgbaaDoor
open Go.RowKit
set_option maxHeartbeats 400000
/-- The nearest number in lo..hi. -/
def clipI (n lo hi : Int) : Int := max lo (min hi n)
theorem clipI_lo {n lo hi : Int} (h : lo ≤ hi) : lo ≤ clipI n lo hi ∧ clipI n lo hi ≤ hi := by unfold clipI; omega
theorem clipI_in {n lo hi : Int} (h1 : lo ≤ n) (h2 : n ≤ hi) : clipI n lo hi = n := by unfold clipI; omega
/-- The absolute value. -/
def absI (n : Int) : Int := if n < 0 then -n else n
theorem tdiv_floor {n d : Int} (h : n < 0) (hd : 1 ≤ d) : n ≤ n.tdiv d ∧ n.tdiv d ≤ 0 ∧ (n.tmod d < 0 → n.tdiv d - 1 = n / d) ∧ (¬ n.tmod d < 0 → n.tdiv d = n / d) := by
 obtain ⟨m, rfl⟩ : ∃ m : Int, n = -m := ⟨-n, by omega⟩
 have e1 : (-m).tdiv d = -(m / d) := by rw [Int.neg_tdiv, Int.tdiv_eq_ediv_of_nonneg (by omega)]
 have e2 : (-m).tmod d = -(m % d) := by rw [Int.neg_tmod, Int.tmod_eq_emod_of_nonneg (by omega)]
 have hq : m / d ≤ m := Int.ediv_le_self _ (by omega)
 have hq0 : 0 ≤ m / d := Int.ediv_nonneg (by omega) (by omega)
 have hr0 := Int.emod_nonneg m (show d ≠ 0 by omega)
 have hr1 := Int.emod_lt_of_pos m (show 0 < d by omega)
 have hdm := Int.mul_ediv_add_emod m d
 rw [e1, e2]
 refine ⟨by omega, by omega, fun h1 => ?_, fun h1 => ?_⟩
 ·symm
  refine (Int.ediv_eq_iff_of_pos (by omega)).2 ?_
  have : d * (-(m / d) - 1) = -(d * (m / d)) - d := by rw [Int.mul_sub, Int.mul_neg, Int.mul_one]
  constructor
  ·rw [Int.mul_comm]; omega
  ·rw [Int.mul_comm]; omega
 ·symm
  have hr : m % d = 0 := by omega
  rw [hr] at hdm
  refine (Int.ediv_eq_iff_of_pos (by omega)).2 ?_
  constructor
  ·rw [Int.mul_comm, Int.mul_neg]; omega
  ·rw [Int.mul_comm, Int.mul_neg]; omega
theorem l1Clip_any (n lo hi : Int) (w : World) : Calls Tryd.prog 134 #[.int .i64 n, .int .i64 lo, .int .i64 hi] w fun e w' => e = .returned (.int .i64 (clipI n lo hi)) ∧ w = w' := by
 go_enter Tryd.func134, Tryd.ntmps134
 go_wp2
 all_goals
  go_ret
  exact ⟨ret_int (by unfold clipI; omega), rfl⟩
theorem clamp_any (n lo hi : Int) (w : World) (h : lo ≤ hi) : Calls Tryd.prog 112 #[.int .i64 n, .int .i64 lo, .int .i64 hi] w fun e w' => e = .returned (.int .i64 (clipI n lo hi)) ∧ w = w' := by
 go_enter Tryd.func112, Tryd.ntmps112
 go_wp2
 all_goals
  go_ret
  exact ⟨ret_int (by unfold clipI; omega), rfl⟩
theorem l7Floor_any (n d : Int) (w : World) (h1 : -1099511627776 ≤ n) (h2 : n ≤ 1099511627776) (hd : 1 ≤ d) (hd2 : d ≤ 1048576) : Calls Tryd.prog 142 #[.int .i64 n, .int .i64 d] w fun e w' => e = .returned (.int .i64 (n / d)) ∧ w = w' := by
 by_cases h0 : 0 ≤ n
 ·have hd0 : decide (n % d < 0) = false := by
   have := Int.emod_nonneg n (show d ≠ 0 by omega)
   simp; omega
  go_enter Tryd.func142, Tryd.ntmps142
  go_wp2
  go_ret
  exact ⟨rfl, rfl⟩
 ·obtain ⟨t1, t2, t3, t4⟩ := tdiv_floor (by omega : n < 0) hd
  have T3 := Lib.hid t3
  have T4 := Lib.hid t4
  clear t3 t4
  by_cases hm : n.tmod d < 0
  ·have hd0 : decide (n.tmod d < 0) = true := by simpa using hm
   go_enter Tryd.func142, Tryd.ntmps142
   go_wp2
   go_ret
   exact ⟨ret_int (T3.out hm), rfl⟩
  ·have hd0 : decide (n.tmod d < 0) = false := by simpa using hm
   go_enter Tryd.func142, Tryd.ntmps142
   go_wp2
   go_ret
   exact ⟨ret_int (T4.out hm), rfl⟩
end Go.Proofs.YtbnhaegidfbgbaaDoor
namespace Go.Proofs.YtbnhaegidfbgbaaDoor
open Go.RowKit
set_option maxHeartbeats 1000000
/-- The sum of f's first n numbers. -/
def sumZ (f : Nat → Int) : Nat → Int
 | 0 => 0
 | n + 1 => sumZ f n + f n
theorem sumZ_rng {f : Nat → Int} {B : Int} {n : Nat} (h : ∀ i, i < n → -B ≤ f i ∧ f i ≤ B) : -(n * B) ≤ sumZ f n ∧ sumZ f n ≤ n * B := by
 induction n with
 | zero => simp [sumZ]
 | succ n ih =>
  have h1 := ih (fun i hi => h i (by omega))
  have h2 := h n (by omega)
  have e : ((n + 1 : Nat) : Int) * B = n * B + B := by rw [Int.natCast_add, Int.add_mul]; omega
  simp only [sumZ]
  rw [e]
  omega
/-- The matrix's entries. -/
def sgn (u y : Nat) : Int := nth [1, 1, 1, 1, 1, 1, -1, -1, 1, -1, -1, 1, 1, -1, 1, -1] (4 * u + y)
theorem sgn_one {u y : Nat} (hu : u < 4) (hy : y < 4) : sgn u y = 1 ∨ sgn u y = -1 := by
 have : ∀ u, u < 4 → ∀ y, y < 4 → sgn u y = 1 ∨ sgn u y = -1 := by decide
 exact this u hu y hy
def hadT (b : List Int) (u v t : Nat) : Int := sgn u (t / 4) * sgn v (t % 4) * nth b t
def had (b : List Int) : List Int := (List.range 16).map fun k => sumZ (hadT b (k / 4) (k % 4)) 16
theorem had_len (b : List Int) : (had b).length = 16 := by simp [had]
theorem nth_had (b : List Int) (k : Nat) (h : k < 16) : nth (had b) k = sumZ (hadT b (k / 4) (k % 4)) 16 := by
 simp [nth, had, h]
theorem hadT_rng {b : List Int} {B : Int} {u v t : Nat} (hb : -B ≤ nth b t ∧ nth b t ≤ B) (hu : u < 4) (hv : v < 4) (ht : t < 16) : -B ≤ hadT b u v t ∧ hadT b u v t ≤ B := by
 unfold hadT
 rcases sgn_one hu (show t / 4 < 4 by omega) with h | h <;> rcases sgn_one hv (show t % 4 < 4 by omega) with h2 | h2 <;> rw [h, h2] <;> omega
theorem had_rng {b : List Int} {B : Int} (hb : ∀ t, t < 16 → -B ≤ nth b t ∧ nth b t ≤ B) {k : Nat} (hk : k < 16) : -(16 * B) ≤ nth (had b) k ∧ nth (had b) k ≤ 16 * B := by
 rw [nth_had _ _ hk]
 have := sumZ_rng (f := hadT b (k / 4) (k % 4)) (B := B) (n := 16) (fun i hi => hadT_rng (hb i hi) (by omega) (by omega) hi)
 simpa using this
/-- Four numbers, a step apart, transformed. -/
def bfS (zs : List Int) (i st : Nat) : List Int :=
 (((zs.set i (nth zs i + nth zs (i + st) + nth zs (i + 2 * st) + nth zs (i + 3 * st))).set (i + st) (nth zs i + nth zs (i + st) - nth zs (i + 2 * st) - nth zs (i + 3 * st))).set (i + 2 * st) (nth zs i - nth zs (i + st) - nth zs (i + 2 * st) + nth zs (i + 3 * st))).set (i + 3 * st) (nth zs i - nth zs (i + st) + nth zs (i + 2 * st) - nth zs (i + 3 * st))
def bfR (zs : List Int) : Nat → List Int
 | 0 => zs
 | k + 1 => bfS (bfR zs k) (4 * k) 1
def bfC (zs : List Int) : Nat → List Int
 | 0 => zs
 | k + 1 => bfS (bfC zs k) k 4
theorem list16 {zs : List Int} (h : zs.length = 16) : ∃ a0 a1 a2 a3 a4 a5 a6 a7 a8 a9 a10 a11 a12 a13 a14 a15 : Int, zs = [a0, a1, a2, a3, a4, a5, a6, a7, a8, a9, a10, a11, a12, a13, a14, a15] := by
 match zs, h with
 | [a0, a1, a2, a3, a4, a5, a6, a7, a8, a9, a10, a11, a12, a13, a14, a15], _ => exact ⟨a0, a1, a2, a3, a4, a5, a6, a7, a8, a9, a10, a11, a12, a13, a14, a15, rfl⟩
theorem had_lit (a0 a1 a2 a3 a4 a5 a6 a7 a8 a9 a10 a11 a12 a13 a14 a15 : Int) : had [a0, a1, a2, a3, a4, a5, a6, a7, a8, a9, a10, a11, a12, a13, a14, a15] =
 [a0+a1+a2+a3+a4+a5+a6+a7+a8+a9+a10+a11+a12+a13+a14+a15,
  a0+a1-a2-a3+a4+a5-a6-a7+a8+a9-a10-a11+a12+a13-a14-a15,
  a0-a1-a2+a3+a4-a5-a6+a7+a8-a9-a10+a11+a12-a13-a14+a15,
  a0-a1+a2-a3+a4-a5+a6-a7+a8-a9+a10-a11+a12-a13+a14-a15,
  a0+a1+a2+a3+a4+a5+a6+a7-a8-a9-a10-a11-a12-a13-a14-a15,
  a0+a1-a2-a3+a4+a5-a6-a7-a8-a9+a10+a11-a12-a13+a14+a15,
  a0-a1-a2+a3+a4-a5-a6+a7-a8+a9+a10-a11-a12+a13+a14-a15,
  a0-a1+a2-a3+a4-a5+a6-a7-a8+a9-a10+a11-a12+a13-a14+a15,
  a0+a1+a2+a3-a4-a5-a6-a7-a8-a9-a10-a11+a12+a13+a14+a15,
  a0+a1-a2-a3-a4-a5+a6+a7-a8-a9+a10+a11+a12+a13-a14-a15,
  a0-a1-a2+a3-a4+a5+a6-a7-a8+a9+a10-a11+a12-a13-a14+a15,
  a0-a1+a2-a3-a4+a5-a6+a7-a8+a9-a10+a11+a12-a13+a14-a15,
  a0+a1+a2+a3-a4-a5-a6-a7+a8+a9+a10+a11-a12-a13-a14-a15,
  a0+a1-a2-a3-a4-a5+a6+a7+a8+a9-a10-a11-a12-a13+a14+a15,
  a0-a1-a2+a3-a4+a5+a6-a7+a8-a9-a10+a11-a12+a13+a14-a15,
  a0-a1+a2-a3-a4+a5-a6+a7+a8-a9+a10-a11-a12+a13-a14+a15] := by
 simp only [had, List.range, List.range.loop, List.map, sumZ, hadT, sgn, Nat.reduceDiv, Nat.reduceMod, Nat.reduceMul, Nat.reduceAdd, nth, List.getD_cons_succ, List.getD_cons_zero, List.cons.injEq, and_true]
 refine ⟨?_, ?_, ?_, ?_, ?_, ?_, ?_, ?_, ?_, ?_, ?_, ?_, ?_, ?_, ?_, ?_⟩ <;> omega
theorem bf_had {zs : List Int} (h : zs.length = 16) : bfC (bfR zs 4) 4 = had zs := by
 obtain ⟨a0, a1, a2, a3, a4, a5, a6, a7, a8, a9, a10, a11, a12, a13, a14, a15, rfl⟩ := list16 h
 rw [had_lit]
 simp only [bfC, bfR, bfS, Nat.reduceMul, Nat.reduceAdd, nth, List.getD_cons_succ, List.getD_cons_zero, List.set_cons_succ, List.set_cons_zero, List.cons.injEq, and_true]
 refine ⟨?_, ?_, ?_, ?_, ?_, ?_, ?_, ?_, ?_, ?_, ?_, ?_, ?_, ?_, ?_, ?_⟩ <;> omega
set_option maxHeartbeats 4000000 in
theorem had_had_lit (a0 a1 a2 a3 a4 a5 a6 a7 a8 a9 a10 a11 a12 a13 a14 a15 : Int) (cs : List Int) (h : had [a0, a1, a2, a3, a4, a5, a6, a7, a8, a9, a10, a11, a12, a13, a14, a15] = cs) : had cs = [16 * a0, 16 * a1, 16 * a2, 16 * a3, 16 * a4, 16 * a5, 16 * a6, 16 * a7, 16 * a8, 16 * a9, 16 * a10, 16 * a11, 16 * a12, 16 * a13, 16 * a14, 16 * a15] := by
 rw [had_lit] at h
 rw [← h, had_lit]
 clear h
 simp only [List.cons.injEq, and_true]
 refine ⟨?_, ?_, ?_, ?_, ?_, ?_, ?_, ?_, ?_, ?_, ?_, ?_, ?_, ?_, ?_, ?_⟩ <;> omega
theorem had_had {zs : List Int} (h : zs.length = 16) : had (had zs) = zs.map (16 * ·) := by
 obtain ⟨a0, a1, a2, a3, a4, a5, a6, a7, a8, a9, a10, a11, a12, a13, a14, a15, rfl⟩ := list16 h
 exact had_had_lit a0 a1 a2 a3 a4 a5 a6 a7 a8 a9 a10 a11 a12 a13 a14 a15 _ rfl
def ihad (b : List Int) : List Int := (had b).map fun n => (n + 8) / 16
theorem ihad_had {zs : List Int} (h : zs.length = 16) : ihad (had zs) = zs := by
 unfold ihad
 rw [had_had h, List.map_map]
 have : ((fun n : Int => (n + 8) / 16) ∘ (16 * ·)) = id := by funext z; simp only [Function.comp, id]; omega
 rw [this, List.map_id]
end Go.Proofs.YtbnhaegidfbgbaaDoor
