/- Checksum: contracts. -/
import Derived.Test.YtpjjadmjdafkeaaPk
import Derived.Test.YtpjjadmjdafkeaaBits
import Derived.Test.YtpjjadmjdafkeaaH
import Derived.Deep.WholeRow
namespace Go.Proofs.Ytpjjadmjdafkeaa
open Go.RowKit
set_option maxHeartbeats 400000

theorem Ext.setRow {w wx : World} (h : Ext w wx) (g : Nat) (cs : Array Value) (hg : w.heap.size ≤ g) : Ext w (wx.setRow g cs) :=
  ⟨h.os, h.tape, h.output, by simp; exact h.size, fun k hk => by rw [setRow_other _ _ _ _ (by omega)]; exact h.block k hk⟩
/-- The table's first k rows. -/
def tabK (k : Nat) : Array Value := ((List.range 256).map fun b => Value.int .u16 (if b < k then (tabv b : Int) else 0)).toArray
theorem tabK_size (k : Nat) : (tabK k).size = 256 := by simp [tabK]
theorem tabK_zero : Array.replicate 256 (Value.int .u16 0) = tabK 0 := by
  apply Array.ext
  · simp [tabK]
  · intro i h1 h2; simp [tabK]
theorem tabK_set (k : Nat) : (tabK k).setIfInBounds k (.int .u16 (tabv k : Int)) = tabK (k + 1) := by
  apply Array.ext_getElem?
  intro i
  rw [Array.getElem?_setIfInBounds, tabK_size]
  by_cases hi : i < 256
  · by_cases h : k = i
    · subst h; simp [tabK, hi]
    · rw [if_neg h]
      have : (i < k) = (i < k + 1) := by simp; omega
      simp [tabK, hi, this]
  · by_cases h : k = i
    · subst h; simp [tabK, hi]
    · rw [if_neg h]; simp [tabK, hi]
theorem tabK_at {k b : Nat} (hb : b < k) (h : b < 256) : (tabK k)[b]? = some (.int .u16 (tabv b : Int)) := by
  simp [tabK, h, hb]
theorem tabK_one (k : Nat) : (tabK k).all (·.oneCell') = true := by
  rw [Array.all_eq_true_iff_forall_mem]
  intro v hv
  simp [tabK] at hv
  obtain ⟨b, -, rfl⟩ := hv
  rfl
theorem info_tab : (Try.prog.info? 96).map (fun i => (i.zero, i.size)) = some (some (.agg (Array.replicate 256 (.int .u16 0))), 256) := by kernel_rfl
theorem u16_nat_ofInt (a : Nat) (ha : a < 65536) : (BitVec.ofInt 16 (a : Int)).toNat = a := by
  rw [BitVec.ofInt_natCast, BitVec.toNat_ofNat]; exact Nat.mod_eq_of_lt (by omega)
theorem wrap_u16 (n : Int) : IntKind.u16.wrap n = n % 65536 := by simp [IntKind.wrap, IntKind.signed, IntKind.bits]
theorem u16_xor_nat (a b : Nat) (ha : a < 65536) (hb : b < 65536) : bits .xor .u16 (a : Int) (b : Int) = ((a ^^^ b : Nat) : Int) := by
  have hx : a ^^^ b < 2 ^ 16 := Nat.xor_lt_two_pow (by omega) (by omega)
  show IntKind.u16.wrap ((BitVec.ofInt 16 (a : Int) ^^^ BitVec.ofInt 16 (b : Int)).toNat : Int) = _
  rw [BitVec.toNat_xor, u16_nat_ofInt a (by omega), u16_nat_ofInt b (by omega), wrap_u16]
  omega
theorem cs1_hi {n : Nat} (h : 32768 ≤ n) (hn : n < 65536) : bits .xor .u16 (IntKind.u16.wrap ((n : Int) * 2)) 4129 = (cs1 n : Int) := by
  have e : IntKind.u16.wrap ((n : Int) * 2) = ((2 * n - 65536 : Nat) : Int) := by rw [wrap_u16]; omega
  rw [e, show (4129 : Int) = ((4129 : Nat) : Int) from rfl, u16_xor_nat _ _ (by omega) (by omega)]
  unfold cs1
  rw [if_pos h]
theorem cs1_lo {n : Nat} (h : ¬ 32768 ≤ n) : ((n : Int) * 2) = (cs1 n : Int) := by
  unfold cs1
  rw [if_neg h]; omega
set_option maxRecDepth 100000 in
theorem checksumTable_any (w : World) :
    Calls Try.prog 73 #[] w fun e w' => e = .returned (.agg (tabK 256)) ∧ Ext w w' := by
  obtain ⟨hz, hsz⟩ := zero_of_info info_tab
  rw [tabK_zero] at hz
  go_enter Try.func73, Try.ntmps73
  go_wp2_with fail
  go_loopw [2, 3, 4, 5, 11] (fun _ _ _ i _ wr => ∃ (k : Nat), k ≤ 256 ∧ i = .int .i64 k ∧ wr = (w.alloc (.cells (tabK 0) 96)).alloc (.cells (tabK k) 96)) (fun _ _ _ i _ _ => 256 - (intOf i).toNat)
  case atStart => exact ⟨0, by omega, rfl, rfl⟩
  case round =>
    obtain ⟨k, hk, rfl, rfl⟩ := hrel
    by_cases hlt : k < 256
    · go_wp2_with fail
      go_loopw [3, 4, 11] (fun v _ i wr => ∃ (j : Nat), j ≤ 8 ∧ i = .int .i64 j ∧ v = .int .u16 (csN j (k * 256)) ∧ wr = (w.alloc (.cells (tabK 0) 96)).alloc (.cells (tabK k) 96)) (fun _ _ i _ => 8 - (intOf i).toNat)
      case atStart =>
        refine ⟨0, by omega, rfl, ?_, rfl⟩
        simp [csN, IntKind.wrap, IntKind.signed, IntKind.bits]
      case round =>
        obtain ⟨j, hj, rfl, rfl, rfl⟩ := hrel
        by_cases hlt2 : j < 8
        · have hlt16 : csN j (k * 256) < 65536 := csN_lt (by omega) j
          obtain ⟨n, hN⟩ : ∃ n, n = csN j (k * 256) := ⟨_, rfl⟩
          have HN := Lib.hid hN
          rw [← hN] at hlt16 ⊢
          clear hN
          by_cases hn : 32768 ≤ n
          · have hd : ((n : Int) / 32768 == 1) = true := by simp; omega
            have hx := cs1_hi hn hlt16
            go_wp2_with fail
            go_roundw
            case rel => exact ⟨j + 1, by omega, by go_num, by rw [csN, ← HN.out], trivial⟩
            case measure => simp [intOf]; omega
          · have hd : ((n : Int) / 32768 == 1) = false := by simp; omega
            have hx := cs1_lo hn
            go_wp2_with fail
            go_roundw
            case rel => exact ⟨j + 1, by omega, by go_num, by rw [csN, ← HN.out, ← cs1_lo hn], trivial⟩
            case measure => simp [intOf]; omega
        · obtain rfl : j = 8 := by omega
          have hts := tabK_set k
          have hT : tabv k = csN 8 (k * 256) := rfl
          rw [hT] at hts
          generalize csN 8 (k * 256) = n at *
          have p := blk_new (w.alloc (.cells (tabK 0) 96)) (.cells (tabK k) 96)
          simp only [World.size_alloc] at p
          have c1 := cell_of_row _ _ k _ _ _ p
          rw [show (tabK k)[k]? = some (.int .u16 0) by simp [tabK, hlt]] at c1
          have f1 := frozen_of_row _ _ k _ _ p
          clear p hT
          go_wp2_with fail
          go_roundw
          case rel => exact ⟨k + 1, by omega, by go_num, rfl⟩
          case measure => simp [intOf]; omega
    · obtain rfl : k = 256 := by omega
      have p1 := blk_new (w.alloc (.cells (tabK 0) 96)) (.cells (tabK 256) 96)
      have p0 := blk_alloc (blk_new w (.cells (tabK 0) 96)) (.cells (tabK 256) 96)
      simp only [World.size_alloc] at p1 p0
      have E0 : Ext w ((w.alloc (.cells (tabK 0) 96)).alloc (.cells (tabK 256) 96)) := (Ext.alloc w _).trans (Ext.alloc _ _)
      generalize (w.alloc (.cells (tabK 0) 96)).alloc (.cells (tabK 256) 96) = wr at *
      have hsz2 : (Try.prog.info? 96).map (·.size) = some (tabK 256).size := by rw [tabK_size]; exact hsz
      go_wp2_with (first | (refine wpList_load_row rfl 96 _ rfl (w.heap.size + 1) rfl 96 (tabK 256) (0, 0) _ p1 Try.underlying96 rfl hsz2 ?_) | (refine wpList_store_row rfl 96 _ _ rfl w.heap.size (tabK 256) rfl rfl 96 (tabK 0) p0 hsz2 (by rw [tabK_size, tabK_size]) (tabK_one 256) ?_))
      refine bodyPost_ret (v := .agg (tabK 256)) (results_cell_row rfl _ _ w.heap.size 96 (tabK 256) (0, 0) _ rfl (setRow_heap _ _ _ _ _ _ p0) Try.underlying96 rfl hsz2) rfl ⟨rfl, ?_⟩
      exact Ext.setRow E0 _ _ (Nat.le_refl _)
theorem u8_xor_nat (a b : Nat) (ha : a < 256) (hb : b < 256) : bits .xor .u8 (a : Int) (b : Int) = ((a ^^^ b : Nat) : Int) := by
  have hx : a ^^^ b < 2 ^ 8 := Nat.xor_lt_two_pow (by omega) (by omega)
  have e1 : ∀ x : Nat, x < 256 → (BitVec.ofInt 8 (x : Int)).toNat = x := fun x hx => by
    rw [BitVec.ofInt_natCast, BitVec.toNat_ofNat]; exact Nat.mod_eq_of_lt (by omega)
  show IntKind.u8.wrap ((BitVec.ofInt 8 (a : Int) ^^^ BitVec.ofInt 8 (b : Int)).toNat : Int) = _
  rw [BitVec.toNat_xor, e1 a (by omega), e1 b (by omega)]
  simp [IntKind.wrap, IntKind.signed, IntKind.bits]
  omega
theorem crcFrom_take {l : List Int} {n k : Nat} (hk : k < l.length) : crcFrom n (l.take (k + 1)) = csB (crcFrom n (l.take k)) (nth l k).toNat := by
  rw [take_snoc_nth l k hk]
  simp [crcFrom, List.foldl_append]
set_option maxRecDepth 100000 in
theorem impl_Checksum_any (a : Option Addr) (c n : Nat) (xs : List Int) (w : World) (hn : n < 2^45) (r : Sl w a n (xs.map (Value.int .u8))) (hb : bys xs) :
    Calls Try.prog 55 #[.slice a n c] w fun e w' => e = .returned (.int .i64 (crc xs)) ∧ Ext w w' := by
  obtain ⟨hz, hsz⟩ := zero_of_info info_tab
  rw [tabK_zero] at hz
  have hsz2 : (Try.prog.info? 96).map (·.size) = some (tabK 256).size := by rw [tabK_size]; exact hsz
  have Hb := Lib.hid hb
  clear hb hsz
  go_enter Try.func55, Try.ntmps55
  go_wp2_with fail
  refine (checksumTable_any _).mono ?_
  rintro e w1 ⟨rfl, e1⟩
  have p0 := blk_new w1 (.cells (tabK 0) 96)
  go_wp2_with (refine wpList_store_row rfl 96 _ _ rfl w1.heap.size (tabK 256) rfl rfl 96 (tabK 0) p0 hsz2 (by rw [tabK_size, tabK_size]) (tabK_one 256) ?_; refine Hid.out ?_)
  have p1 := setRow_heap _ _ _ (tabK 256) _ _ p0
  have E1 : Ext w ((w1.alloc (.cells (tabK 0) 96)).setRow w1.heap.size (tabK 256)) := Ext.setRow (e1.trans (Ext.alloc _ _)) _ _ e1.size
  generalize (w1.alloc (.cells (tabK 0) 96)).setRow w1.heap.size (tabK 256) = w2 at *
  generalize w1.heap.size = B at *
  have s2 := r.ext E1
  have Hl := Lib.hid s2.int_len
  clear p0 e1 hz hsz2 r
  refine Lib.hid ?_
  go_wp2_with fail
  go_loopw [4, 6, 10] (fun v _ i wr => ∃ (k : Nat), k ≤ n ∧ i = .int .i64 k ∧ v = .int .u16 (crcFrom 65535 (xs.take k)) ∧ wr = w2) (fun _ _ i _ => n - (intOf i).toNat)
  case atStart => exact ⟨0, by omega, rfl, rfl, rfl⟩
  case round =>
    obtain ⟨k, hk, rfl, rfl, rfl⟩ := hrel
    by_cases hlt : k < n
    · have hkl : k < xs.length := by rw [Hl.out]; exact hlt
      obtain ⟨b1, o1, rfl, g1⟩ := s2.int hlt
      have hst := crcFrom_take (n := 65535) hkl
      have hlt16 : crcFrom 65535 (xs.take k) < 65536 := crcFrom_lt (by omega) (fun z hz => Hb.out z (List.mem_of_mem_take hz))
      have hby := Hb.out (nth xs k) (by rw [nth_eq _ _ hkl]; exact List.getElem_mem _)
      generalize crcFrom 65535 (xs.take k) = m at *
      obtain ⟨y, hy⟩ := Int.eq_ofNat_of_zero_le hby.1
      rw [hy] at g1 hst hby
      rw [Int.toNat_natCast] at hst
      rw [csB_table hlt16 (by omega)] at hst
      have HS := Lib.hid hst
      obtain ⟨q, hq⟩ : ∃ q, q = m / 256 := ⟨_, rfl⟩
      obtain ⟨t, ht⟩ : ∃ t, t = m * 256 % 65536 := ⟨_, rfl⟩
      rw [← hq, ← ht] at hst
      have hqI : (m : Int) / 256 = (q : Int) := by omega
      have hq8 : IntKind.u8.wrap (q : Int) = (q : Int) := by simp [IntKind.wrap, IntKind.signed, IntKind.bits]; omega
      have ht16 : IntKind.u16.wrap ((m : Int) * 256) = (t : Int) := by rw [wrap_u16]; omega
      have hql : q < 256 := by omega
      have htl : t < 65536 := by omega
      clear hq ht
      have hx8 := u8_xor_nat q y hql (by omega)
      have hxl : q ^^^ y < 256 := Nat.xor_lt_two_pow (n := 8) hql (by omega)
      generalize q ^^^ y = z at *
      have hcz := cell_of_row _ _ z _ _ _ p1
      rw [tabK_at hxl hxl] at hcz
      have htz : tabv z < 65536 := csN_lt (by omega) 8
      have hx16 := u16_xor_nat t (tabv z) htl htz
      generalize tabv z = u at *
      generalize t ^^^ u = v at *
      have HS := Lib.hid hst
      have P1 := Lib.hid p1
      clear hst p1 hby
      go_wp2_with fail
      go_roundw
      case rel => exact ⟨k + 1, by omega, by go_num, by rw [HS.out], by first | rfl | trivial⟩
      case measure => simp [intOf]; omega
    · obtain rfl : k = n := by omega
      have hx : xs.take k = xs := List.take_of_length_le (by rw [Hl.out]; exact Nat.le_refl _)
      rw [hx]
      have hlt16 : crcFrom 65535 xs < 65536 := crcFrom_lt (by omega) Hb.out
      have HC : Hid (crcFrom 65535 xs = crc xs) := Lib.hid rfl
      generalize crcFrom 65535 xs = m at *
      clear p1 hx
      go_wp2
      go_ret
      exact ⟨by rw [HC.out]; rfl, E1⟩
theorem cs1_hi64 {n : Nat} (h : 32768 ≤ n) (hn : n < 65536) : bits .xor .i64 ((2 * n : Int) - 65536) 4129 = (cs1 n : Int) := by
  have e : (2 * n : Int) - 65536 = ((2 * n - 65536 : Nat) : Int) := by omega
  rw [e, show (4129 : Int) = ((4129 : Nat) : Int) from rfl, i64_xor_nat _ _ (by omega) (by omega)]
  unfold cs1
  rw [if_pos h]
theorem cs1_lo64 {n : Nat} (h : ¬ 32768 ≤ n) : (2 * (n : Int)) = (cs1 n : Int) := by
  unfold cs1
  rw [if_neg h]; omega
set_option maxRecDepth 100000 in
theorem spec_Checksum_any (a : Option Addr) (c n : Nat) (xs : List Int) (w : World) (hn : n < 2^45) (r : Sl w a n (xs.map (Value.int .u8))) (hb : bys xs) :
    Calls Try.prog 52 #[.slice a n c] w fun e w' => e = .returned (.int .i64 (crc xs)) ∧ w = w' := by
  have Hb := Lib.hid hb
  have Hl := Lib.hid r.int_len
  clear hb
  go_enter Try.func52, Try.ntmps52
  go_wp2_with fail
  go_loopw [3, 4, 5] (fun v i _ wr => ∃ (k : Nat), k ≤ n ∧ i = .int .i64 k ∧ v = .int .i64 (crcFrom 65535 (xs.take k)) ∧ wr = w) (fun _ i _ _ => n - (intOf i).toNat)
  case atStart => exact ⟨0, by omega, rfl, rfl, rfl⟩
  case round =>
    obtain ⟨k, hk, rfl, rfl, rfl⟩ := hrel
    by_cases hlt : k < n
    · have hkl : k < xs.length := by rw [Hl.out]; exact hlt
      obtain ⟨b1, o1, rfl, g1⟩ := r.int hlt
      have hst := crcFrom_take (n := 65535) hkl
      have hlt16 : crcFrom 65535 (xs.take k) < 65536 := crcFrom_lt (by omega) (fun z hz => Hb.out z (List.mem_of_mem_take hz))
      have hby := Hb.out (nth xs k) (by rw [nth_eq _ _ hkl]; exact List.getElem_mem _)
      generalize crcFrom 65535 (xs.take k) = m at *
      obtain ⟨y, hy⟩ := Int.eq_ofNat_of_zero_le hby.1
      rw [hy] at g1 hst hby
      rw [Int.toNat_natCast] at hst
      have HS := Lib.hid hst
      have hx0 := i64_xor_nat m (y * 256) (by omega) (by omega)
      have hx1 : ((y * 256 : Nat) : Int) = (y : Int) * 256 := by omega
      rw [hx1] at hx0
      have hml : m ^^^ (y * 256) < 65536 := xor_lt16 hlt16 (by omega)
      have HU : Hid (csB m y = csN 8 (m ^^^ (y * 256))) := Lib.hid rfl
      generalize m ^^^ (y * 256) = u at *
      clear hst hx1 hy
      go_wp2_with fail
      go_loopw [3, 5] (fun v i wx => ∃ (j : Nat), j ≤ 8 ∧ i = .int .i64 j ∧ v = .int .i64 (csN j u) ∧ wx = wr) (fun _ i _ => 8 - (intOf i).toNat)
      case atStart => exact ⟨0, by omega, rfl, rfl, rfl⟩
      case round =>
        obtain ⟨j, hj, rfl, rfl, rfl⟩ := hrel
        by_cases hlt2 : j < 8
        · have hlt16 : csN j u < 65536 := csN_lt hml j
          obtain ⟨p, hN⟩ : ∃ p, p = csN j u := ⟨_, rfl⟩
          have HN := Lib.hid hN
          rw [← hN] at hlt16 ⊢
          clear hN
          by_cases hp : 32768 ≤ p
          · have hx := cs1_hi64 hp hlt16
            have HC : Hid (cs1 p = csN (j + 1) u) := Lib.hid (by rw [csN, ← HN.out])
            have hp2 : (32768 : Int) ≤ (p : Int) := by omega
            generalize cs1 p = q at *
            go_wp2_with fail
            go_roundw
            case rel => exact ⟨j + 1, by omega, by go_num, by rw [HC.out], by first | rfl | trivial⟩
            case measure => simp [intOf]; omega
          · have hx := cs1_lo64 hp
            have HC : Hid (cs1 p = csN (j + 1) u) := Lib.hid (by rw [csN, ← HN.out])
            have hp2 : ¬ (32768 : Int) ≤ (p : Int) := by omega
            generalize cs1 p = q at *
            have hq : q < 65536 := by omega
            go_wp2_with fail
            go_roundw
            case rel => exact ⟨j + 1, by omega, by go_num, by rw [HC.out], by first | rfl | trivial⟩
            case measure => simp [intOf]; omega
        · obtain rfl : j = 8 := by omega
          have H8 : Hid (csN 8 u = crcFrom 65535 (xs.take (k + 1))) := Lib.hid (by rw [HS.out, HU.out])
          generalize csN 8 u = u8 at *
          go_wp2_with fail
          go_roundw
          case rel => exact ⟨k + 1, by omega, by go_num, by rw [H8.out], by first | rfl | trivial⟩
          case measure => simp [intOf]; omega
    · obtain rfl : k = n := by omega
      have hx : xs.take k = xs := List.take_of_length_le (by rw [Hl.out]; exact Nat.le_refl _)
      rw [hx]
      go_wp2
      go_ret
      exact ⟨rfl, rfl⟩
end Go.Proofs.Ytpjjadmjdafkeaa
