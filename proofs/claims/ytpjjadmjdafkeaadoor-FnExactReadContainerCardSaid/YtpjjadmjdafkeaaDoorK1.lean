/- Checksum: contracts. -/
import Derived.Test.YtpjjadmjdafkeaaDoorPk
import Derived.Test.YtpjjadmjdafkeaaDoorBits
import Derived.Test.YtpjjadmjdafkeaaDoorH
import Derived.Deep.WholeRow
namespace Go.Proofs.YtpjjadmjdafkeaaDoor
open Go.RowKit
set_option maxHeartbeats 400000

theorem Ext.setRow {w wx : World} (h : Ext w wx) (g : Nat) (cs : Array Value) (hg : w.heap.size ≤ g) : Ext w (wx.setRow g cs) :=
  ⟨h.os, h.tape, h.output, by simp; exact h.size, fun k hk => by rw [setRow_other _ _ _ _ (by omega)]; exact h.block k hk⟩
end Go.Proofs.YtpjjadmjdafkeaaDoor
