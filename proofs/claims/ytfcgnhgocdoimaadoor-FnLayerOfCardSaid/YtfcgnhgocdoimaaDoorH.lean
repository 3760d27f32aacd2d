/- The helper functions of the exact laws, over lists of integers, bytes and bools: copy, compare, mark, hold. -/
import Derived.Test.YtfcgnhgocdoimaaDoorBase
namespace Go.Proofs.YtfcgnhgocdoimaaDoor
open Go.RowKit
set_option maxHeartbeats 400000
theorem info_int : (Tryd.prog.info? 3).map (fun i => (i.zero, i.size, i.bytes)) = some (some (.int .i64 0), 1, 8) := by kernel_rfl
theorem info_uint8 : (Tryd.prog.info? 5).map (fun i => (i.zero, i.size, i.bytes)) = some (some (.int .u8 0), 1, 1) := by kernel_rfl
/-- The numbers from k on. -/
def marks (k : Int) (n : Nat) : List Int := (List.range n).map fun (i : Nat) => k + (i : Int)
theorem marks_len (k : Int) (n : Nat) : (marks k n).length = n := by simp [marks]
theorem nth_marks (k : Int) (n i : Nat) (h : i < n) : nth (marks k n) i = k + i := by simp [nth, marks, h]
end Go.Proofs.YtfcgnhgocdoimaaDoor
