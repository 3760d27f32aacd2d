/- Packets: contract of the reference's PacketBytes. -/
import Derived.Test.YtpjjadmjdafkeaaK3
namespace Go.Proofs.Ytpjjadmjdafkeaa
open Go.RowKit
set_option maxHeartbeats 1000000
set_option maxRecDepth 100000 in
theorem spec_PacketBytes_yes (num fr row part : Int) (last : Bool) (zs : List Int) (a : Option Addr) (n c : Nat) (w : World) (h : pval num fr row part n) (r : Sl w a n (zs.map (Value.int .u8))) (hb : bys zs) :
    Calls Try.prog 13 #[.agg #[.int .i64 num, .int .i64 fr, .int .i64 row, .int .i64 part, .bool last, .slice a n c]] w fun e w' => ∃ a' c', e = .returned (.slice a' (n + 9) c') ∧ w'.ownsRow w.heap.size 5 1 (.slice a' (n + 9) c') (n + 9) ((pby ⟨num, fr, row, part, last, zs⟩).map (Value.int .u8)) ∧ Ext w w' := by
  have Hv := Lib.hid h
  have Hl := Lib.hid r.int_len
  have Hb := Lib.hid hb
  obtain ⟨h1, h2, h3, h4, h5, h6, h7, h8, h9, h10⟩ := h
  clear hb
  obtain ⟨q1, hq1⟩ : ∃ q, q = num / 256 := ⟨_, rfl⟩
  obtain ⟨r1, hr1⟩ : ∃ q, q = num % 256 := ⟨_, rfl⟩
  obtain ⟨q2, hq2⟩ : ∃ q, q = fr / 256 := ⟨_, rfl⟩
  obtain ⟨r2, hr2⟩ : ∃ q, q = fr % 256 := ⟨_, rfl⟩
  have HP0 : Hid (phead ⟨num, fr, row, part, last, zs⟩ = [q1, r1, q2, r2, row, part, flag last]) := Lib.hid (by rw [hq1, hr1, hq2, hr2]; rfl)
  have t1 : Int.tdiv num 256 = q1 := by rw [hq1, Int.tdiv_eq_ediv_of_nonneg h1]
  have t2 : Int.tmod num 256 = r1 := by rw [hr1, Int.tmod_eq_emod_of_nonneg h1]
  have t3 : Int.tdiv fr 256 = q2 := by rw [hq2, Int.tdiv_eq_ediv_of_nonneg h3]
  have t4 : Int.tmod fr 256 = r2 := by rw [hr2, Int.tmod_eq_emod_of_nonneg h3]
  have b1 : IntKind.u8.wrap q1 = q1 := wrap8 (by omega) (by omega)
  have b2 : IntKind.u8.wrap r1 = r1 := wrap8 (by omega) (by omega)
  have b3 : IntKind.u8.wrap q2 = q2 := wrap8 (by omega) (by omega)
  have b4 : IntKind.u8.wrap r2 = r2 := wrap8 (by omega) (by omega)
  have hrow8 : IntKind.u8.wrap row = row := wrap8 h5 (by omega)
  have hpart8 : IntKind.u8.wrap part = part := wrap8 h7 h8
  have v1 : wrap64 q1 = q1 := by unfold wrap64; omega
  have v2 : wrap64 q2 = q2 := by unfold wrap64; omega
  clear hq1 hr1 hq2 hr2
  go_enter Try.func13, Try.ntmps13
  go_wp2_with fail
  refine (spec_PacketValid_yes num fr row part last a n c _ Hv.out).mono ?_
  rintro e w1 ⟨rfl, e1⟩
  have E1 : Ext w w1 := (Ext.alloc w _).trans e1
  have p1 := e1.blk (blk_new w _)
  obtain ⟨m, m0, m1, m2, m3, m4, m5⟩ := bx6 p1
  have rr := r.ext E1
  have hs1 := E1.size
  clear r e1 p1
  have hlast : ∃ f, f = flag last := ⟨_, rfl⟩
  obtain ⟨f, hf⟩ := hlast
  have HF := Lib.hid hf
  clear hf
  have o7 : (w1.alloc (.cells #[.int .u8 q1, .int .u8 r1, .int .u8 q2, .int .u8 r2, .int .u8 row, .int .u8 part, .int .u8 f] 5)).ownsRow w1.heap.size 5 1 (.slice (some ⟨w1.heap.size, 0, none⟩) 7 7) 7 [.int .u8 q1, .int .u8 r1, .int .u8 q2, .int .u8 r2, .int .u8 row, .int .u8 part, .int .u8 f] :=
    World.ownsRow_lit (base := w1.heap.size) (e := 5) (size := 1) w1 #[.int .u8 q1, .int .u8 r1, .int .u8 q2, .int .u8 r2, .int .u8 row, .int .u8 part, .int .u8 f] 7 (Nat.le_refl _) (by unfold maxLen; omega) rfl
  have e7 := Ext.alloc w1 (.cells #[.int .u8 q1, .int .u8 r1, .int .u8 q2, .int .u8 r2, .int .u8 row, .int .u8 part, .int .u8 f] 5)
  have r7 := rr.ext e7
  have hs7 : w1.heap.size ≤ (w1.alloc (.cells #[.int .u8 q1, .int .u8 r1, .int .u8 q2, .int .u8 r2, .int .u8 row, .int .u8 part, .int .u8 f] 5)).heap.size := e7.size
  cases last
  · obtain rfl : f = 0 := HF.out
    go_wp2_with (at_builtin; refine wpList_apps _ o7 hs7 rfl _ _ 22 rfl (.int .u8 0) 1 Try.underlying22 info_uint8 rfl rfl a n c _ rfl r7 (by intro u hu; simp at hu; obtain ⟨z, -, rfl⟩ := hu; rfl) (by omega) (by omega) ?_; intro v8 w8 own8 gr8; refine Hid.out ?_)
    obtain ⟨a8, c8, rfl⟩ := owns_form own8
    have E8 : Ext w1 w8 := Ext.grown e7 gr8 (by intro k hk; simp [Value.ownBlock] at hk; omega)
    obtain ⟨N, hN⟩ : ∃ N, N = 7 + n := ⟨_, rfl⟩
    rw [← hN] at own8 ⊢
    have hN9 : n + 9 = N + 2 := by omega
    have hNs : N < 1000 := by omega
    have HN := Lib.hid hN9
    clear hN hN9
    obtain ⟨B, hB⟩ : ∃ B, B = pbody ⟨num, fr, row, part, false, zs⟩ := ⟨_, rfl⟩
    have own9 : w8.ownsRow w1.heap.size 5 1 (.slice a8 N c8) N (B.map (Value.int .u8)) := by
      rw [hB, pbody, List.map_append, HP0.out]; exact own8
    have hok : Pkt.ok ⟨num, fr, row, part, false, zs⟩ := by have h9 := Hv.out; rw [← Hl.out] at h9; exact h9
    have hpb : bys B := by rw [hB]; exact pbody_bys hok Hb.out
    have hcl := crc_lt hpb
    have Hpb := Lib.hid hpb
    have HP : Hid (pby ⟨num, fr, row, part, false, zs⟩ = B ++ pair (crc B)) := Lib.hid (by rw [hB]; exact if_pos hok)
    have hs8 := E8.size
    have s9 := Sl.of_owns own9
    have hsw := E1.size
    clear hpb hB own8 gr8 o7 e7 r7 rr hs7 m0 m1 m2 m3 m4 m5 HP0 hok
    refine Lib.hid ?_
    go_wp2_with fail
    refine (spec_Checksum_any a8 c8 N B _ (by omega) s9 Hpb.out).mono ?_
    rintro e w9 ⟨rfl, rfl⟩
    obtain ⟨C, hC⟩ : ∃ C : Int, C = (crc B : Nat) := ⟨_, rfl⟩
    rw [← hC]
    obtain ⟨q, hq⟩ : ∃ q, q = C / 256 := ⟨_, rfl⟩
    obtain ⟨r, hr⟩ : ∃ q, q = C % 256 := ⟨_, rfl⟩
    have HQ : Hid (pair (crc B) = [q, r]) := Lib.hid (by rw [← hC, hq, hr]; rfl)
    have t5 : Int.tdiv C 256 = q := by rw [hq, Int.tdiv_eq_ediv_of_nonneg (by omega)]
    have t6 : Int.tmod C 256 = r := by rw [hr, Int.tmod_eq_emod_of_nonneg (by omega)]
    have b5 : IntKind.u8.wrap q = q := wrap8 (by omega) (by omega)
    have b6 : IntKind.u8.wrap r = r := wrap8 (by omega) (by omega)
    have v5 : wrap64 q = q := by unfold wrap64; omega
    clear hq hr hC hcl t1 t2 t3 t4 b1 b2 b3 b4 v1 v2 hrow8 hpart8
    go_wp2_with (at_builtin; refine wpList_appm _ own9 hs8 _ 2 rfl rfl _ _ 22 rfl (.int .u8 0) 1 Try.underlying22 info_uint8 rfl rfl rfl (by intro u hu; simp at hu; rcases hu with rfl | rfl <;> rfl) (by omega) (by omega) ?_; intro v10 w10 own10 gr10)
    obtain ⟨a10, c10, rfl⟩ := owns_form own10
    go_ret
    rw [HN.out, HP.out, List.map_append, HQ.out]
    exact ⟨a10, c10, rfl, owns_mono own10 hsw, E1.trans (Ext.grown E8 gr10 (owns_ge own9))⟩
  · obtain rfl : f = 1 := HF.out
    go_wp2_with (at_builtin; refine wpList_apps _ o7 hs7 rfl _ _ 22 rfl (.int .u8 0) 1 Try.underlying22 info_uint8 rfl rfl a n c _ rfl r7 (by intro u hu; simp at hu; obtain ⟨z, -, rfl⟩ := hu; rfl) (by omega) (by omega) ?_; intro v8 w8 own8 gr8; refine Hid.out ?_)
    obtain ⟨a8, c8, rfl⟩ := owns_form own8
    have E8 : Ext w1 w8 := Ext.grown e7 gr8 (by intro k hk; simp [Value.ownBlock] at hk; omega)
    obtain ⟨N, hN⟩ : ∃ N, N = 7 + n := ⟨_, rfl⟩
    rw [← hN] at own8 ⊢
    have hN9 : n + 9 = N + 2 := by omega
    have hNs : N < 1000 := by omega
    have HN := Lib.hid hN9
    clear hN hN9
    obtain ⟨B, hB⟩ : ∃ B, B = pbody ⟨num, fr, row, part, true, zs⟩ := ⟨_, rfl⟩
    have own9 : w8.ownsRow w1.heap.size 5 1 (.slice a8 N c8) N (B.map (Value.int .u8)) := by
      rw [hB, pbody, List.map_append, HP0.out]; exact own8
    have hok : Pkt.ok ⟨num, fr, row, part, true, zs⟩ := by have h9 := Hv.out; rw [← Hl.out] at h9; exact h9
    have hpb : bys B := by rw [hB]; exact pbody_bys hok Hb.out
    have hcl := crc_lt hpb
    have Hpb := Lib.hid hpb
    have HP : Hid (pby ⟨num, fr, row, part, true, zs⟩ = B ++ pair (crc B)) := Lib.hid (by rw [hB]; exact if_pos hok)
    have hs8 := E8.size
    have s9 := Sl.of_owns own9
    have hsw := E1.size
    clear hpb hB own8 gr8 o7 e7 r7 rr hs7 m0 m1 m2 m3 m4 m5 HP0 hok
    refine Lib.hid ?_
    go_wp2_with fail
    refine (spec_Checksum_any a8 c8 N B _ (by omega) s9 Hpb.out).mono ?_
    rintro e w9 ⟨rfl, rfl⟩
    obtain ⟨C, hC⟩ : ∃ C : Int, C = (crc B : Nat) := ⟨_, rfl⟩
    rw [← hC]
    obtain ⟨q, hq⟩ : ∃ q, q = C / 256 := ⟨_, rfl⟩
    obtain ⟨r, hr⟩ : ∃ q, q = C % 256 := ⟨_, rfl⟩
    have HQ : Hid (pair (crc B) = [q, r]) := Lib.hid (by rw [← hC, hq, hr]; rfl)
    have t5 : Int.tdiv C 256 = q := by rw [hq, Int.tdiv_eq_ediv_of_nonneg (by omega)]
    have t6 : Int.tmod C 256 = r := by rw [hr, Int.tmod_eq_emod_of_nonneg (by omega)]
    have b5 : IntKind.u8.wrap q = q := wrap8 (by omega) (by omega)
    have b6 : IntKind.u8.wrap r = r := wrap8 (by omega) (by omega)
    have v5 : wrap64 q = q := by unfold wrap64; omega
    clear hq hr hC hcl t1 t2 t3 t4 b1 b2 b3 b4 v1 v2 hrow8 hpart8
    go_wp2_with (at_builtin; refine wpList_appm _ own9 hs8 _ 2 rfl rfl _ _ 22 rfl (.int .u8 0) 1 Try.underlying22 info_uint8 rfl rfl rfl (by intro u hu; simp at hu; rcases hu with rfl | rfl <;> rfl) (by omega) (by omega) ?_; intro v10 w10 own10 gr10)
    obtain ⟨a10, c10, rfl⟩ := owns_form own10
    go_ret
    rw [HN.out, HP.out, List.map_append, HQ.out]
    exact ⟨a10, c10, rfl, owns_mono own10 hsw, E1.trans (Ext.grown E8 gr10 (owns_ge own9))⟩
theorem spec_PacketBytes_no (num fr row part : Int) (last : Bool) (a : Option Addr) (n c : Nat) (w : World) (hn : n ≤ 9223372036854775807) (h : ¬ pval num fr row part n) :
    Calls Try.prog 13 #[.agg #[.int .i64 num, .int .i64 fr, .int .i64 row, .int .i64 part, .bool last, .slice a n c]] w fun e w' => ∃ v, e = .returned v ∧ w'.ownsRow w.heap.size 5 1 v 0 [] ∧ Ext w w' := by
  have Hv := Lib.hid h
  clear h
  go_enter Try.func13, Try.ntmps13
  go_wp2_with fail
  refine (spec_PacketValid_no num fr row part last a n c _ hn Hv.out).mono ?_
  rintro e w1 ⟨rfl, e1⟩
  have E1 : Ext w w1 := (Ext.alloc w _).trans e1
  have hown := World.ownsRow_made (base := w.heap.size) (e := 5) (size := 1) w1 #[] 0 E1.size (by simp) rfl
  go_wp2
  go_ret
  exact ⟨_, rfl, hown, E1.trans (Ext.alloc _ _)⟩
theorem spec_PacketBytes_any (p : Pkt) (a : Option Addr) (c : Nat) (w : World) (hn : p.data.length ≤ 9223372036854775807) (r : Sl w a p.data.length (p.data.map (Value.int .u8))) (hb : bys p.data) :
    Calls Try.prog 13 #[pkV p a c] w fun e w' => ∃ a' c', e = .returned (.slice a' (pby p).length c') ∧ w'.ownsRow w.heap.size 5 1 (.slice a' (pby p).length c') (pby p).length ((pby p).map (Value.int .u8)) ∧ Ext w w' := by
  by_cases h : p.ok
  · rw [pby_len h]
    exact spec_PacketBytes_yes p.num p.fr p.row p.part p.last p.data a p.data.length c w h r hb
  · rw [pby_no h]
    refine (spec_PacketBytes_no p.num p.fr p.row p.part p.last a p.data.length c w hn h).mono ?_
    rintro e w1 ⟨v, rfl, own1, e1⟩
    obtain ⟨a1, c1, rfl⟩ := owns_form own1
    exact ⟨a1, c1, rfl, own1, e1⟩
end Go.Proofs.Ytpjjadmjdafkeaa
