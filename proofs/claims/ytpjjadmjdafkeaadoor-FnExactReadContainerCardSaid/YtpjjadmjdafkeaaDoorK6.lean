/- Packets: contracts of ReadPacket's helpers. -/
import Derived.Test.YtpjjadmjdafkeaaDoorK3
import Derived.Test.YtpjjadmjdafkeaaDoorConv
import Derived.Lib.Bytes
namespace Go.Proofs.YtpjjadmjdafkeaaDoor
open Go.RowKit
set_option maxHeartbeats 1000000
theorem bytesOf_inj {xs ys : List Int} (hx : bys xs) (hy : bys ys) (h1 : Go.Lib.bytesOf xs = Go.Lib.bytesOf ys) : xs = ys := by
  unfold Go.Lib.bytesOf at h1
  have hl : xs.length = ys.length := by simpa using congrArg List.length h1
  apply List.ext_getElem hl
  intro i h2 h3
  have h4 := congrArg (fun l => l[i]?) h1
  simp only [List.getElem?_map, List.getElem?_eq_getElem h2, List.getElem?_eq_getElem h3, Option.map_some, Option.some.injEq] at h4
  have h5 := congrArg UInt8.toNat h4
  simp only [UInt8.toNat_ofNat'] at h5
  have := hx xs[i] (List.getElem_mem h2)
  have := hy ys[i] (List.getElem_mem h3)
  omega
theorem str_beq {xs ys : List Int} (hx : bys xs) (hy : bys ys) : ((strOfNums xs).toList == (strOfNums ys).toList) = decide (xs = ys) := by
  rw [Go.Lib.strOfNums_toList, Go.Lib.strOfNums_toList]
  by_cases h : xs = ys
  · subst h; simp
  · rw [decide_eq_false h]
    simpa using fun h2 => h (bytesOf_inj hx hy h2)
theorem conv_sl (w : World) (a : Option Addr) (n c : Nat) (xs : List Int) (h : Sl w a n (xs.map (Value.int .u8))) (hn : 0 < n) : (convert 22 9 (.slice a n c)).run Tryd.prog w = .ok (.string (strOfNums xs)) w := by
  have hl := h.int_len
  obtain ⟨b2, o2, h2, h3⟩ := h.int hn
  subst h2
  exact run_convert_bytes_arg (P := Tryd.prog) w 22 5 Tryd.underlying22 Tryd.underlying5 b2 o2 n c xs hl (fun i hi => by
      obtain ⟨b3, o3, h2, h3⟩ := h.int hi
      simp only [Option.some.injEq, Addr.mk.injEq, and_true] at h2
      obtain ⟨rfl, rfl⟩ := h2
      exact h3) 9 Tryd.underlying9
theorem bytes_Equal_any (v1 v2 : Value) (xs ys : List Int) (w : World) (hx : bys xs) (hy : bys ys) (h1 : (convert 22 9 v1).run Tryd.prog w = .ok (.string (strOfNums xs)) w) (h2 : (convert 22 9 v2).run Tryd.prog w = .ok (.string (strOfNums ys)) w) :
    Calls Tryd.prog 30 #[v1, v2] w fun e w' => e = .returned (.bool (decide (xs = ys))) ∧ w = w' := by
  have HQ := Lib.hid (str_beq hx hy)
  generalize strOfNums xs = s1 at *
  generalize strOfNums ys = s2 at *
  go_enter Tryd.func30, Tryd.ntmps30
  go_wp2
  go_ret
  exact ⟨by rw [← HQ.out]; rfl, rfl⟩
theorem pairAt_any (a : Option Addr) (c n : Nat) (l : List Int) (k : Nat) (w : World) (hn : n ≤ c ∧ c ≤ 9223372036854775807) (r : Sl w a n (l.map (Value.int .u8))) (hb : bys l) (hk : k + 1 < n) :
    Calls Tryd.prog 43 #[.slice a n c, .int .i64 k] w fun e w' => e = .returned (.int .i64 (nth l k * 256 + nth l (k + 1))) ∧ ∃ m, w' = w.drewN m := by
  have hl := r.int_len
  have b0 := hb (nth l k) (by rw [nth_eq _ _ (by omega)]; exact List.getElem_mem _)
  have b1 := hb (nth l (k + 1)) (by rw [nth_eq _ _ (by omega)]; exact List.getElem_mem _)
  obtain ⟨bb, o, rfl, g0⟩ := r.int (i := k) (by omega)
  obtain ⟨bb', o', hh, g1⟩ := r.int (i := k + 1) (by omega)
  simp only [Option.some.injEq, Addr.mk.injEq, and_true] at hh
  obtain ⟨rfl, rfl⟩ := hh
  obtain ⟨x, hx⟩ := Int.eq_ofNat_of_zero_le b0.1
  obtain ⟨y, hy⟩ := Int.eq_ofNat_of_zero_le b1.1
  rw [hx] at g0 b0 ⊢
  rw [hy] at g1 b1 ⊢
  have hor := i64_or_nat (x * 256) y (by omega) (by omega)
  have hv : x * 256 ||| y = x * 256 + y := by
    have := Nat.two_pow_add_eq_or_of_lt (i := 8) (b := y) (by omega) x
    rw [Nat.mul_comm x 256]
    exact this.symm
  rw [hv] at hor
  have hor2 : bits .or .i64 ((x : Int) * 256) (y : Int) = (x : Int) * 256 + y := by
    have e : (x : Int) * 256 = ((x * 256 : Nat) : Int) := by omega
    rw [e, hor]; omega
  clear hor hv hx hy hl r hb
  go_enter Tryd.func43, Tryd.ntmps43
  go_wp2_with fail
  go_quiet (fail)
  go_wp2
  go_ret
  exact ⟨by first | rfl | (simp; done) | (simp; omega), by first | exact ⟨_, rfl⟩ | exact ⟨1, rfl⟩⟩
end Go.Proofs.YtpjjadmjdafkeaaDoor
