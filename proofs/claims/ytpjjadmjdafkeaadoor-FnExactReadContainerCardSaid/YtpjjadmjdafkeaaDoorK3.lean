/- Packets: contracts of PacketBytes. -/
import Derived.Test.YtpjjadmjdafkeaaDoorK2
import Derived.Test.YtpjjadmjdafkeaaDoorKeep
import Derived.Test.YtpjjadmjdafkeaaDoorRegion
import Derived.Test.YtpjjadmjdafkeaaDoorOwn
namespace Go.Proofs.YtpjjadmjdafkeaaDoor
open Go.RowKit
set_option maxHeartbeats 1000000

theorem wrap8 {n : Int} (h0 : 0 ≤ n) (h1 : n ≤ 255) : IntKind.u8.wrap n = n := by
  simp [IntKind.wrap, IntKind.signed, IntKind.bits]; omega
theorem wrap8m (n : Int) : IntKind.u8.wrap n = n % 256 := by simp [IntKind.wrap, IntKind.signed, IntKind.bits]
theorem bx6 {w : World} {b : Nat} {x0 x1 x2 x3 x4 x5 : Value} {T : TypeId} (h : w.heap[b]? = some (.cells #[x0, x1, x2, x3, x4, x5] T (0, 0))) : b < w.heap.size ∧ w.cell? ⟨b, 0, none⟩ = some x0 ∧ w.cell? ⟨b, 1, none⟩ = some x1 ∧ w.cell? ⟨b, 2, none⟩ = some x2 ∧ w.cell? ⟨b, 3, none⟩ = some x3 ∧ w.cell? ⟨b, 4, none⟩ = some x4 ∧ w.cell? ⟨b, 5, none⟩ = some x5 :=
  ⟨lt_of_block h, by simp [World.cell?, h], by simp [World.cell?, h], by simp [World.cell?, h], by simp [World.cell?, h], by simp [World.cell?, h], by simp [World.cell?, h]⟩
theorem fz6 {w : World} {b : Nat} {x0 x1 x2 x3 x4 x5 : Value} {T : TypeId} (h : w.heap[b]? = some (.cells #[x0, x1, x2, x3, x4, x5] T (0, 0))) : w.frozen? ⟨b, 0, none⟩ = false ∧ w.frozen? ⟨b, 1, none⟩ = false ∧ w.frozen? ⟨b, 2, none⟩ = false ∧ w.frozen? ⟨b, 3, none⟩ = false ∧ w.frozen? ⟨b, 4, none⟩ = false ∧ w.frozen? ⟨b, 5, none⟩ = false :=
  ⟨by simp [World.frozen?, h], by simp [World.frozen?, h], by simp [World.frozen?, h], by simp [World.frozen?, h], by simp [World.frozen?, h], by simp [World.frozen?, h]⟩
theorem ext_none {w w' : World} {row : Option Nat} (g : w.grownBy w' row) (h : row = none) : Ext w w' := by
  subst h; exact Ext.grown (Below.refl _ _) g (by simp)
theorem appendPair_any (v : Value) (n : Nat) (l : List Int) (x : Int) (base : Nat) (w : World) (own : w.ownsRow base 5 1 v n (l.map (Value.int .u8))) (hbase : base ≤ w.heap.size) (hn : n ≤ 2^40) (h0 : 0 ≤ x) (h1 : x < 65536) :
    Calls Tryd.prog 24 #[v, .int .i64 x] w fun e w' => ∃ a c, e = .returned (.slice a (n + 2) c) ∧ w'.ownsRow base 5 1 (.slice a (n + 2) c) (n + 2) ((l ++ pair x).map (Value.int .u8)) ∧ w.grownBy w' v.ownBlock ∧
      (∀ b' n' own xs', n' ≤ n → w.ownsRow b' 5 1 own n' xs' → w'.ownsRow b' 5 1 own n' xs') := by
  obtain ⟨q, hq⟩ : ∃ q, q = x / 256 := ⟨_, rfl⟩
  obtain ⟨r, hr⟩ : ∃ r, r = x % 256 := ⟨_, rfl⟩
  have hP : Hid (pair x = [q, r]) := Lib.hid (by rw [hq, hr]; rfl)
  have hqx : x / 256 = q := hq.symm
  have hq8 : IntKind.u8.wrap q = q := wrap8 (by omega) (by omega)
  have hr8 : IntKind.u8.wrap x = r := by rw [hr]; exact wrap8m x
  clear hq hr
  go_enter Tryd.func24, Tryd.ntmps24
  go_wp2_with (at_builtin; go_loud (refine wpList_appk _ rfl (own.alloc _) (by simp; omega) _ _ 22 rfl (.int .u8 0) 1 Tryd.underlying22 info_uint8 rfl (by decide) rfl ⟨w.heap.size, 0, none⟩ 2 2 [.int .u8 q, .int .u8 r] rfl rfl ((Sl_new w [.int .u8 q, .int .u8 r] 5).cellsOf _ (by simp)) (by intro u hu; simp at hu; rcases hu with rfl | rfl <;> rfl) (by omega) (by omega) ?_; intro v2 w2 own2 gr2 keep2))
  obtain ⟨a2, c2, rfl⟩ := owns_form own2
  go_ret
  refine ⟨a2, c2, rfl, ?_, grownBy_trans (World.grownBy_alloc _ _ _) gr2, fun b' n' own xs' hn' ho => keep2 _ _ _ _ hn' (ho.alloc _)⟩
  rw [hP.out, List.map_append]
  exact own2
theorem flagByte_any (b : Bool) (w : World) :
    Calls Tryd.prog 25 #[.bool b] w fun e w' => e = .returned (.int .u8 (flag b)) ∧ w = w' := by
  cases b
  · go_enter Tryd.func25, Tryd.ntmps25
    go_wp2
    go_ret
    exact ⟨rfl, rfl⟩
  · go_enter Tryd.func25, Tryd.ntmps25
    go_wp2
    go_ret
    exact ⟨rfl, rfl⟩
end Go.Proofs.YtpjjadmjdafkeaaDoor
