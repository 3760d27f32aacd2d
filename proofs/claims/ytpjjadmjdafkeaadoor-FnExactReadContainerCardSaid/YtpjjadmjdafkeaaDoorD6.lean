/- Drawing: byte strings and lists of them. -/
import Derived.Test.YtpjjadmjdafkeaaDoorD4
import Derived.Test.YtpjjadmjdafkeaaDoorP0
namespace Go.Proofs.YtpjjadmjdafkeaaDoor
open Go.RowKit
set_option maxHeartbeats 1000000

theorem owns_ne {w : World} {b1 b2 e1 e2 s1 s2 n1 n2 : Nat} {v1 v2 : Value} {x1 x2 : List Value} (h1 : w.ownsRow b1 e1 s1 v1 n1 x1) (h2 : w.ownsRow b2 e2 s2 v2 n2 x2) (hne : e1 ≠ e2) : v1.ownBlock = none ∨ v1.ownBlock ≠ v2.ownBlock := by
  rcases h1.2 with ⟨rfl, -⟩ | ⟨g, cap, cur, rfl, -, p1, -⟩
  · exact .inl rfl
  · right
    intro he
    rcases h2.2 with ⟨rfl, -⟩ | ⟨g', cap', cur', rfl, -, p2, -⟩
    · simp [Value.ownBlock] at he
    · simp [Value.ownBlock] at he
      subst he
      rw [p1] at p2
      simp at p2
      exact hne p2.2
theorem l20Bytes_c (b P most : Nat) (w : World) (h : RdP w b P) (hp : P < 2^38) (hmost : most ≤ 100) :
    Calls Tryd.prog 34 #[.pointer (some ⟨b, 0, none⟩), .int .i64 most] w fun e w' => ∃ (v : Value) (xs : List Int), e = .returned v ∧ w'.ownsRow w.heap.size 5 1 v xs.length (xs.map (Value.int .u8)) ∧ xs.length ≤ most ∧ (∀ x ∈ xs, byt x) ∧ RdP w' b (P + 400) ∧ w.grownBy w' (some b) := by
  have hblt := h.lt
  go_enter Tryd.func34, Tryd.ntmps34
  have E1 : Ext w (w.alloc (.cells #[] 5)) := (Below.refl _ _).alloc (Nat.le_refl _) _
  have hown := World.ownsRow_made (base := w.heap.size) (e := 5) (size := 1) w #[] 0 (Nat.le_refl _) (by simp) rfl
  go_wp2_with fail
  refine (pick_c b P _ _ (h.ext E1) (by omega) (by omega) (by omega)).mono ?_
  rintro e w1 ⟨x, rfl, x0, x1, r1, g1⟩
  have D1 : DG w b (P + 1) 0 0 w1 := ⟨grown_trans (ext_gr E1) g1, by simpa using r1⟩
  have own1 := own_gr hown g1 hblt
  obtain ⟨k0, rfl⟩ := Int.eq_ofNat_of_zero_le x0
  have hk0 : k0 ≤ most := by omega
  clear hown E1 h r1 g1 x0 x1
  go_wp2_with fail
  go_loopw [5, 6] (fun v i wr => ∃ (k : Nat) (xs : List Int), k ≤ k0 ∧ i = .int .i64 k ∧ DG w b (P + 305 - 3 * k) 0 0 wr ∧ wr.ownsRow w.heap.size 5 1 v xs.length (xs.map (Value.int .u8)) ∧ Hid (xs.length + k = k0 ∧ ∀ x ∈ xs, byt x)) (fun _ i _ => (intOf i).toNat)
  case atStart => exact ⟨k0, [], by omega, rfl, ⟨D1.1, D1.2.mono (by omega)⟩, own1, Lib.hid ⟨by simp, by simp⟩⟩
  case round =>
    obtain ⟨k, xs, hk, rfl, D2, own2, hx⟩ := hrel
    clear own1 D1
    by_cases hlt : 0 < k
    · go_wp2_with fail
      refine (pick_c b _ 256 _ D2.2 (by omega) (by omega) (by omega)).mono ?_
      rintro e w2 ⟨y, rfl, y0, y1, r2, g2⟩
      have own3 := own_gr own2 g2 hblt
      have D3 : DG w b (P + 306 - 3 * k) 0 0 w2 := ⟨grown_trans D2.1 g2, r2.mono (by omega)⟩
      clear own2 D2 r2 g2
      go_wp2_with fail
      refine (pick_c b _ 256 _ D3.2 (by omega) (by omega) (by omega)).mono ?_
      rintro e w3 ⟨y', rfl, y0', y1', r3, g3⟩
      have own4 := own_gr own3 g3 hblt
      have D4 : DG w b (P + 307 - 3 * k) 0 0 w3 := ⟨grown_trans D3.1 g3, r3.mono (by omega)⟩
      have e4 := Ext.alloc w3 (.cells #[.int .i64 0, .int .i64 255, .int .i64 y, .int .i64 y'] 3)
      have s4 : SlR (w3.alloc (.cells #[.int .i64 0, .int .i64 255, .int .i64 y, .int .i64 y'] 3)) (b + 1) (.slice (some ⟨w3.heap.size, 0, none⟩) 4 4) 4 0 255 := ⟨_, [0, 255, y, y'], rfl, by have := D4.2.lt; omega, Sl_new _ _ _, by simp; omega⟩
      clear own3 D3 r3 g3
      go_wp2_with fail
      refine (pick_c b _ 4 _ (D4.2.ext e4) (by omega) (by omega) (by omega)).mono ?_
      rintro e w5 ⟨z, rfl, z0, z1, r5, g5⟩
      have own5 := own_gr (owns_ext own4 e4) g5 hblt
      have D5 : DG w b (P + 308 - 3 * k) 0 0 w5 := ⟨grown_trans (grown_ext D4.1 e4) g5, r5.mono (by omega)⟩
      have s5 := s4.grown g5 (by omega)
      clear own4 D4 e4 s4 r5 g5
      generalize w3.heap.size = B at *
      obtain ⟨gg, l, hv, n5, s6, r6⟩ := s5
      simp only [Value.slice.injEq, Option.some.injEq, Addr.mk.injEq, and_true] at hv
      subst hv
      obtain ⟨g6, j6, y6, h6, n6, c6, y6a, y6b⟩ := SlR.at n5 s6 r6 (show z.toNat < 4 by omega)
      simp only [Value.pointer.injEq, Option.some.injEq, Addr.mk.injEq, and_true] at h6
      obtain ⟨rfl, rfl⟩ := h6
      have hwr : IntKind.u8.wrap y6 = y6 := by rw [wrap_u8]; omega
      have hlen : xs.length ≤ 100 := by have := hx.out.1; omega
      have hwb : w.heap.size ≤ w5.heap.size := D5.1.size
      go_wp2_with (at_builtin; refine wpList_app _ own5 hwb _ rfl _ _ 22 rfl (.int .u8 0) 1 Tryd.underlying22 info_uint8 rfl rfl rfl rfl (by omega) (by omega) ?_; intro v2 w6 own6 gr6 _)
      have D6 := D5.own gr6 (owns_ge own5) hblt
      clear own5 D5 gr6 s6 hwr
      go_roundw
      case rel =>
        refine ⟨k - 1, xs ++ [y6], by omega, by go_num, ⟨D6.1, D6.2.mono (by omega)⟩, by simpa using own6, Lib.hid ⟨by have := hx.out.1; simp; omega, fun x hxm => ?_⟩⟩
        rcases List.mem_append.1 hxm with hxm | hxm
        · exact hx.out.2 x hxm
        · simp at hxm; subst hxm; exact ⟨by omega, by omega⟩
      case measure => simp [intOf]; omega
    · have hk0' : k = 0 := by omega
      have hlen : xs.length ≤ most := by have := hx.out.1; omega
      go_wp2
      go_ret
      exact ⟨_, xs, rfl, own2, hlen, hx.out.2, D2.2.mono (by omega), D2.1⟩
end Go.Proofs.YtpjjadmjdafkeaaDoor
