/- Ranges over functions: entering and leaving a function that holds one. -/
import Derived.RangeFuncNested
import Derived.RangeFuncBound
import Derived.RangeFuncCalls
import Derived.RangeFuncLeaves
import Derived.Shelf.Abstract
import Derived.Shelf.RegionOpen
import Derived.WalkKit
import Derived.OwnWalkIn
import Derived.TacticsInMore
import Derived.LoopNIn
import Derived.LoopIn
import Derived.Test.YtmokncpppmchfaaDoorOwn
namespace Go.Proofs.YtmokncpppmchfaaDoor
open Go.RowKit
/-- A function's contract from its body, where the body holds a range over a function: walked as any other. -/
theorem calls_of_marks (n : Nat) {P : Program} {f : FuncId} {fn : Func} {c : Code} {args : Array Value} {w : World} {R : Ending → World → Prop}
    (hf : P.funcs[f]? = some fn) (hb : fn.body = some c)
    (h : c.wp P (bodyPostM Fence.wide n P fn R) { tmps := args ++ Array.replicate (fn.ntmps - args.size) undef, defers := [] } w) : Calls P f args w R :=
  callsIn_wide.1 (callsIn_of_wp_marks (n := n) hf hb trivial (wpIn_wide.2 h))
/-- What is turned at the return lies at or behind the loop's start. -/
theorem ext_putObj {a W : World} {D : Nat} (h : Ext a W) (hD : a.heap.size ≤ D) (o : Obj) : Ext a (W.putObj D o) := Ext.grown h (grownBy_putObj' W D o) (fun k e => by cases e; exact hD)
theorem blk_putObj {W : World} {b D : Nat} {o : Obj} (h : W.heap[b]? = some o) (hD : b ≠ D) (o' : Obj) : (W.putObj D o').heap[b]? = some o := (World.putObj_heap_other hD).trans h
def keepB (b : Nat) (W W' : World) : Prop := W'.heap[b]? = W.heap[b]?
theorem keepB.t {b : Nat} {A B C : World} (h : keepB b A B) (k : keepB b B C) : keepB b A C := k.trans h
theorem keepB.b {b n : Nat} (hb : b < n) (W : World) (l : Nat) (o o' : Obj) (hl : n ≤ l) (_ : W.heap[l]? = some o) (_ : o.isCells = false) (_ : o.isWalk = false) : keepB b W (W.putObj l o') := World.putObj_heap_other (by omega)
end Go.Proofs.YtmokncpppmchfaaDoor
