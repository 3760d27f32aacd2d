/- FnReadPacket: damaged packets are rejected: the walk of the law. -/
import Derived.Test.YtpjjadmjdafkeaaLawK4
import Derived.StillTailTactics
namespace Go.Proofs.Ytpjjadmjdafkeaa
open Go.RowKit
set_option maxHeartbeats 1000000
/-- What a drawn list of bytes is like. -/
def DrR (w : World) (e : Ending) (w' : World) : Prop :=
  ∃ (a : Option Addr) (c : Nat) (l : List Int), e = .returned (.slice a l.length c) ∧ w'.ownsRow w.heap.size 5 1 (.slice a l.length c) l.length (l.map (Value.int .u8)) ∧ l.length ≤ 30 ∧ bys l ∧ Ext w w'
set_option maxRecDepth 100000 in
theorem DrawReadPacket_any (a : Option Addr) (c n : Nat) (zs : List Int) (w : World) (hc : n ≤ c) (hc2 : c ≤ 9223372036854775807) (r : Sl w a n (zs.map (Value.int .u8))) (hz : ∀ z ∈ zs, 0 ≤ z ∧ z ≤ 255) :
    Calls Try.prog 29 #[.slice a n c] w (DrR w) := by
  go_enter Try.func29, Try.ntmps29
  go_wp2_with fail
  refine (open_any a c n zs _ hc hc2 r hz).mono ?_
  rintro e w1 ⟨b, rfl, rd, e1, hb⟩
  have hrd : RdP w1 b 0 := ⟨0, Nat.le_refl _, rd⟩
  have hblt := hrd.lt
  have hs1 := e1.size
  clear r hz rd
  go_wp2_with fail
  refine (l20Packet_c b 0 0 _ hrd (by omega) (by omega) (by omega)).mono ?_
  rintro e w2 ⟨p, a2, c2, rfl, own2, hl, hbb, hok, r2, g2⟩
  have HOK : Hid p.ok := Lib.hid (hok (by first | rfl | trivial))
  clear hok
  have D2 : DG w1 b 1000 0 0 w2 := ⟨g2, r2⟩
  go_wp2_with fail
  refine (spec_PacketBytes_any p a2 c2 _ (by omega) (Sl.of_owns own2) hbb).mono ?_
  rintro e w3 ⟨a3, c3, rfl, own3, e3⟩
  have hbs := pby_bys (p := p) hbb
  have hpl := pby_len HOK.out
  have hhs := D2.1.size
  generalize pby p = B at *
  obtain ⟨k, hk⟩ : ∃ k, k = B.length := ⟨_, rfl⟩
  rw [← hk] at own3 hpl ⊢
  have hk10 : 1 ≤ k ∧ k ≤ 30 := by omega
  have D3 : DG w1 b 1001 0 0 w3 := ⟨grown_ext D2.1 e3, (D2.2.ext e3).mono (by omega)⟩
  have own4 := owns_mono own3 hhs
  have HBS := Lib.hid hbs
  have Hk := Lib.hid hk
  clear own2 own3 hl hbb HOK r2 g2 D2 e3 hbs hk hpl hhs hrd
  go_wp2_with fail
  refine (pick_c b _ 4 _ D3.2 (by omega) (by omega) (by omega)).mono ?_
  rintro e w5 ⟨y, rfl, ya, yb, r5, g5⟩
  have D5 : DG w1 b 1002 0 0 w5 := ⟨grown_trans D3.1 g5, r5.mono (by omega)⟩
  have own5 := own_gr own4 g5 hblt
  clear D3 own4 r5 g5
  by_cases y0 : y = 0
  · subst y0
    obtain ⟨g, cap, hv⟩ : ∃ g cap, (Value.slice a3 k c3) = .slice (some ⟨g, 0, none⟩) k cap := by
      rcases id own5.2 with ⟨hv, h0'⟩ | ⟨g, cap, cur, hv, -⟩
      · omega
      · exact ⟨g, cap, hv⟩
    simp only [Value.slice.injEq, true_and] at hv
    obtain ⟨rfl, rfl⟩ := hv
    go_wp2_with fail
    refine (pick_c b _ k _ D5.2 (by omega) (by omega) (by omega)).mono ?_
    rintro e w6 ⟨z, rfl, za, zb, r6, g6⟩
    obtain ⟨z, rfl⟩ := Int.eq_ofNat_of_zero_le za
    have D6 : DG w1 b 1003 0 0 w6 := ⟨grown_trans D5.1 g6, r6.mono (by omega)⟩
    have own6 := own_gr own5 g6 hblt
    clear D5 own5 r6 g6
    go_wp2_with fail
    refine (pick_c b _ 256 _ D6.2 (by omega) (by omega) (by omega)).mono ?_
    rintro e w7 ⟨x, rfl, xa, xb, r7, g7⟩
    have D7 : DG w1 b 1004 0 0 w7 := ⟨grown_trans D6.1 g7, r7.mono (by omega)⟩
    have own7 := own_gr own6 g7 hblt
    have hx8 : IntKind.u8.wrap x = x := wrap8 xa (by omega)
    have hzk : z < k := by omega
    obtain ⟨u, d0, -⟩ := owns_get own7 hzk
    have f0 := own7.frozenAt z
    obtain ⟨o8, g8⟩ := own7.stored z (.int .u8 x)
    have hgb := owns_ge own7
    have E7 : Ext w w7 := Ext.grown e1 D7.1 (fun q hq => by cases hq; exact hb)
    have EE : Ext w (w7.setCell ⟨g, z, none⟩ (.int .u8 x)) := Ext.grown E7 g8 (fun q hq => by cases hq; have := hgb g rfl; omega)
    have o9 : (w7.setCell ⟨g, z, none⟩ (.int .u8 x)).ownsRow w.heap.size 5 1 (.slice (some ⟨g, 0, none⟩) k c3) k ((B.set z x).map (Value.int .u8)) := by
      rw [List.map_set]; exact owns_mono o8 hs1
    have hBx : bys (B.set z x) := fun q hq => by
      rcases List.mem_or_eq_of_mem_set hq with h | h
      · exact HBS.out q h
      · rw [h]; exact ⟨xa, by omega⟩
    have HBx := Lib.hid hBx
    have hk2 : (B.set z x).length = k := by rw [List.length_set, Hk.out]
    have HK2 := Lib.hid hk2
    clear D6 own6 own7 g7 r7 D7 o8 g8 hBx hk2 E7
    go_wp2
    go_ret
    refine ⟨some ⟨g, 0, none⟩, c3, B.set z x, ?_, ?_, ?_, HBx.out, EE⟩
    · rw [HK2.out]; rfl
    · rw [HK2.out]; exact o9
    · rw [HK2.out]; exact hk10.2
  · by_cases y1 : y = 1
    · subst y1
      go_wp2_with fail
      refine (l20Bytes_c b _ 20 _ D5.2 (by omega) (by omega)).mono ?_
      rintro e w6 ⟨v6, xs, rfl, own6, hxl, hxb, r6, g6⟩
      obtain ⟨a6, c6, rfl⟩ := owns_form own6
      have EE : Ext w w6 := Ext.grown e1 (grown_trans D5.1 g6) (fun q hq => by cases hq; exact hb)
      have hs5 := D5.1.size
      have HX := Lib.hid hxb
      clear hxb
      go_wp2
      go_ret
      exact ⟨a6, c6, xs, rfl, owns_mono own6 (by omega), by omega, HX.out, EE⟩
    · have EE : Ext w w5 := Ext.grown e1 D5.1 (fun q hq => by cases hq; exact hb)
      go_wp2
      go_ret
      rw [Hk.out] at own5 hk10 ⊢
      exact ⟨a3, c3, B, rfl, owns_mono own5 hs1, hk10.2, HBS.out, EE⟩
theorem flip_ne {x : Int} (h0 : 0 ≤ x ∧ x ≤ 255) {e : Nat} (he : e < 8) : (0 ≤ bits .xor .u8 x ((2 : Int) ^ e % 256) ∧ bits .xor .u8 x ((2 : Int) ^ e % 256) ≤ 255) ∧ bits .xor .u8 x ((2 : Int) ^ e % 256) ≠ x := by
  obtain ⟨x, rfl⟩ := Int.eq_ofNat_of_zero_le h0.1
  have hx : x < 256 := by have := h0.2; omega
  have key : ∀ p : Nat, p < 256 → p ≠ 0 → (0 ≤ bits .xor .u8 (x : Int) (p : Int) ∧ bits .xor .u8 (x : Int) (p : Int) ≤ 255) ∧ bits .xor .u8 (x : Int) (p : Int) ≠ (x : Int) := by
    intro p hp hp0
    have hl : x ^^^ p < 2 ^ 8 := Nat.xor_lt_two_pow (by omega) (by omega)
    rw [u8_xor_nat x p hx hp]
    refine ⟨by omega, fun h => hp0 ?_⟩
    have h1 : x ^^^ p = x := by omega
    have h2 := congrArg (x ^^^ ·) h1
    simpa [← Nat.xor_assoc] using h2
  match e, he with
  | 0, _ => exact key 1 (by omega) (by omega)
  | 1, _ => exact key 2 (by omega) (by omega)
  | 2, _ => exact key 4 (by omega) (by omega)
  | 3, _ => exact key 8 (by omega) (by omega)
  | 4, _ => exact key 16 (by omega) (by omega)
  | 5, _ => exact key 32 (by omega) (by omega)
  | 6, _ => exact key 64 (by omega) (by omega)
  | 7, _ => exact key 128 (by omega) (by omega)
set_option maxRecDepth 100000 in
set_option maxHeartbeats 4000000 in
theorem law_FnReadPacket (a : Option Addr) (c n : Nat) (zs : List Int) (b : Option Addr) (d M : Nat) (ys : List Int) (w : World) (hn0 : n ≤ c ∧ c ≤ maxLen) (sl : Sl w a n (zs.map (Value.int .u8))) (wf : ∀ z ∈ zs, (Lit.int .u8 z).wf = true) (hm0 : M ≤ d ∧ d ≤ maxLen) (_ : Sl w b M (ys.map (Value.int .u8))) (_ : ∀ z ∈ ys, (Lit.int .u8 z).wf = true) :
    Calls Try.prog 6 #[.slice a n c, .slice b M d] w fun e w' => e = .returned (.bool true) ∧ Ext w w' := by
  have hn : n ≤ c ∧ c ≤ 9223372036854775807 := ⟨hn0.1, hn0.2⟩
  have hm : M ≤ 9223372036854775807 := Nat.le_trans hm0.1 hm0.2
  clear hn0 hm0
  have hz := Lib.hid (byte_range5 wf)
  clear wf
  by_cases hbig : 1048576 < n
  · go_enter Try.func6, Try.ntmps6
    go_wp2
    go_ret
    refine ⟨rfl, ?_⟩
    (repeat (first | with_reducible exact Below.refl _ _ | assumption | with_reducible refine below_drewN ?_ _ | with_reducible refine Below.drew ?_ | with_reducible refine Below.setCell ?_ (by simp <;> omega) _ | with_reducible refine Ext.trans ?_ (Ext.alloc _ _)))
  by_cases hbig2 : 1048576 < M
  · go_enter Try.func6, Try.ntmps6
    go_wp2
    go_ret
    refine ⟨rfl, ?_⟩
    (repeat (first | with_reducible exact Below.refl _ _ | assumption | with_reducible refine below_drewN ?_ _ | with_reducible refine Below.drew ?_ | with_reducible refine Below.setCell ?_ (by simp <;> omega) _ | with_reducible refine Ext.trans ?_ (Ext.alloc _ _)))
  go_enter Try.func6, Try.ntmps6
  go_wp2_with fail
  refine (DrawReadPacket_any a c n zs _ hn.1 hn.2 (sl.ext (by (repeat (first | with_reducible exact Below.refl _ _ | assumption | with_reducible refine below_drewN ?_ _ | with_reducible refine Below.drew ?_ | with_reducible refine Below.setCell ?_ (by simp <;> omega) _ | with_reducible refine Ext.trans ?_ (Ext.alloc _ _))))) hz.out).mono ?_
  rintro e w1 ⟨a1, c1, l, rfl, own1, hl1, hlb, e1⟩
  have E1 : Ext w w1 := by refine Ext.trans ?_ e1; (repeat (first | with_reducible exact Below.refl _ _ | assumption | with_reducible refine below_drewN ?_ _ | with_reducible refine Below.drew ?_ | with_reducible refine Below.setCell ?_ (by simp <;> omega) _ | with_reducible refine Ext.trans ?_ (Ext.alloc _ _)))
  obtain ⟨N, hN⟩ : ∃ N, N = l.length := ⟨_, rfl⟩
  rw [← hN] at own1 hl1 ⊢
  have HN := Lib.hid hN
  have HLB := Lib.hid hlb
  have hcap1 := owns_cap own1
  have hcap : N ≤ c1 ∧ c1 ≤ 9223372036854775807 := hcap1
  have hI := fun (w : World) (r : Sl w a1 N (l.map (Value.int .u8))) => impl_ReadPacket_any a1 c1 N l w hcap (by omega) r hlb
  have hS := fun (w : World) (r : Sl w a1 N (l.map (Value.int .u8))) => spec_ReadPacket_any a1 c1 N l w hcap (by omega) r hlb
  unfold RdR at hI hS
  have hpl : (rdP l).data.length ≤ N := by
    unfold rdP
    split
    · simp only [parse, List.length_take, List.length_drop]; omega
    · simp [pkt0]
  obtain ⟨ok, hok⟩ : ∃ ok, ok = decide (rdOk l) := ⟨_, rfl⟩
  obtain ⟨p, hp⟩ : ∃ p, p = rdP l := ⟨_, rfl⟩
  rw [← hp] at hI hS hpl
  rw [← hok] at hI hS
  obtain ⟨num, fr, row, part, last, ds⟩ := p
  simp only at hI hS hpl
  obtain ⟨m, hmm⟩ : ∃ m, m = ds.length := ⟨_, rfl⟩
  rw [← hmm] at hI hS hpl
  have HI := Lib.hid hI
  have HS := Lib.hid hS
  have HOK := Lib.hid hok
  have HP := Lib.hid hp
  have Hmm := Lib.hid hmm
  have hokk : (ok != ok) = false := by cases ok <;> rfl
  clear sl hz e1 hN hlb hI hS hok hp hmm hcap1
  go_wp2_with fail
  refine (HI.out _ (Sl.of_owns own1)).mono ?_
  rintro e w2 ⟨a2, c2, rfl, own2, e2⟩
  have e3 := Ext.alloc w2 (.cells #[.int .i64 num, .int .i64 fr, .int .i64 row, .int .i64 part, .bool last, .slice a2 m c2] 27)
  have q3 := blk_new w2 (.cells #[.int .i64 num, .int .i64 fr, .int .i64 row, .int .i64 part, .bool last, .slice a2 m c2] 27)
  have own3 := owns_ext own2 e3
  have f3 := e2.trans e3
  have o3 := owns_ext own1 f3
  have E3 := E1.trans f3
  clear own1 own2 e2 e3 f3 E1
  go_wp2_with fail
  generalize w2.alloc (.cells #[.int .i64 num, .int .i64 fr, .int .i64 row, .int .i64 part, .bool last, .slice a2 m c2] 27) = w3 at *
  generalize w2.heap.size = Q6 at *
  refine (HS.out _ (Sl.of_owns o3)).mono ?_
  rintro e w4 ⟨a4, c4, rfl, own4, e4⟩
  have e5 := Ext.alloc w4 (.cells #[.int .i64 num, .int .i64 fr, .int .i64 row, .int .i64 part, .bool last, .slice a4 m c4] 27)
  have q5 := blk_new w4 (.cells #[.int .i64 num, .int .i64 fr, .int .i64 row, .int .i64 part, .bool last, .slice a4 m c4] 27)
  have own5 := owns_ext own4 e5
  have f5 := e4.trans e5
  have o5 := owns_ext o3 f5
  have p5 := owns_ext own3 f5
  have r5 := f5.blk q3
  have E5 := E3.trans f5
  clear own3 own4 e4 e5 f5 E3 o3 q3
  obtain ⟨z, m0, m1, m2, m3, m4, m5⟩ := bx6 r5
  obtain ⟨y, n0, n1, n2, n3, n4, n5⟩ := bx6 q5
  go_wp2_with fail
  generalize w4.alloc (.cells #[.int .i64 num, .int .i64 fr, .int .i64 row, .int .i64 part, .bool last, .slice a4 m c4] 27) = w5 at *
  generalize w4.heap.size = Q8 at *
  refine (samePacket_same num fr row part last a2 a4 m c2 c4 ds _ (fun w' e => conv_own w' _ a2 m c2 ds (owns_ext p5 e)) (fun w' e => conv_own w' _ a4 m c4 ds (owns_ext own5 e))).mono ?_
  rintro e w6 ⟨rfl, e6⟩
  have E6 := E5.trans e6
  have o6 := owns_ext o5 e6
  have p6 := owns_ext p5 e6
  have r6 := e6.blk r5
  clear m0 m1 m2 m3 m4 m5 z n0 n1 n2 n3 n4 n5 y q5 own5 e6 E5 o5 p5 r5
  obtain ⟨z, m0, m1, m2, m3, m4, m5⟩ := bx6 r6
  cases ok with
  | false =>
    have hno : ¬ rdOk l := of_decide_eq_false HOK.out.symm
    have hp0 : (⟨num, fr, row, part, last, ds⟩ : Pkt) = pkt0 := by rw [HP.out]; exact rdP_no hno
    simp only [pkt0, Pkt.mk.injEq] at hp0
    obtain ⟨rfl, rfl, rfl, rfl, rfl, rfl⟩ := hp0
    obtain rfl : m = 0 := Hmm.out
    clear hno
    go_wp2_with fail
    refine (samePacket_same 0 0 0 0 false a2 none 0 c2 0 [] _ (fun w' e => conv_own w' _ a2 0 c2 [] (owns_ext p6 e)) (fun w' e => conv_own w' 0 none 0 0 [] (World.ownsRow_nil _ _ _ _))).mono ?_
    rintro e w7 ⟨rfl, e7⟩
    go_wp2_with fail
    refine (alive_any _).mono ?_
    rintro e w8 ⟨rfl, e8⟩
    go_wp2
    go_ret
    exact ⟨rfl, E6.trans (e7.trans e8)⟩
  | true =>
    have hrd : rdOk l := of_decide_eq_true HOK.out.symm
    have HRD := Lib.hid hrd
    have hN10 : 10 ≤ N := by rw [HN.out]; exact hrd.1
    obtain ⟨kk, hkk⟩ : ∃ kk, kk = M % N := ⟨_, rfl⟩
    have hkN : kk < N := by rw [hkk]; exact Nat.mod_lt _ (by omega)
    have hrem : (M : Int) % (N : Int) = (kk : Int) := by omega
    have hremt : Int.tmod (M : Int) (N : Int) = (kk : Int) := by rw [Int.tmod_eq_emod_of_nonneg (by omega)]; exact hrem
    obtain ⟨ee, hee⟩ : ∃ ee, ee = M % 8 := ⟨_, rfl⟩
    have he8 : ee < 8 := by omega
    have hre8 : (M : Int) % 8 = (ee : Int) := by omega
    have hret : Int.tmod (M : Int) 8 = (ee : Int) := by rw [Int.tmod_eq_emod_of_nonneg (by omega)]; exact hre8
    have oB := World.ownsRow_made (base := w6.heap.size) (e := 5) (size := 1) w6 #[] 0 (Nat.le_refl _) (by simp) rfl
    have eB := Ext.alloc w6 (.cells #[] 5)
    have sB := (Sl.of_owns o6).ext eB
    have hsB := eB.size
    clear hrd hkk hee
    go_wp2_with (at_builtin; refine wpList_apps _ oB hsB rfl _ _ 22 rfl (.int .u8 0) 1 Try.underlying22 info_uint8 rfl rfl a1 N c1 _ rfl sB (by intro u hu; simp at hu; obtain ⟨z, -, rfl⟩ := hu; rfl) (by omega) (by omega) ?_; intro v7 w7 own7 gr7; refine Hid.out ?_)
    rw [Nat.zero_add, List.nil_append] at own7
    have e7 : Ext w6 w7 := Ext.grown eB gr7 (fun q hq => by simp [Value.ownBlock] at hq; omega)
    obtain ⟨g, cap, rfl⟩ : ∃ g cap, v7 = .slice (some ⟨g, 0, none⟩) N cap := by
      rcases id own7.2 with ⟨hv, h0'⟩ | ⟨g, cap, cur, hv, -⟩
      · omega
      · exact ⟨g, cap, hv⟩
    have E7 := E6.trans e7
    have o7 := owns_ext o6 e7
    have p7 := owns_ext p6 e7
    have r7 := e7.blk r6
    have hge7 := owns_ge own7
    have HO := Lib.hid (show ∀ q, (Value.slice a1 N c1).ownBlock = some q → q < w6.heap.size from fun q hq => (o6.lt q hq).2)
    have HPQ := Lib.hid (show ∀ q, (Value.slice a2 m c2).ownBlock = some q → q < w6.heap.size from fun q hq => (p6.lt q hq).2)
    have hs6 := E6.size
    clear oB eB sB hsB gr7 E6 o6 p6 r6 m0 m1 m2 m3 m4 m5 z
    refine Lib.hid ?_
    obtain ⟨u0, d0, hu0⟩ := owns_get own7 hkN
    have hu1 : u0 = .int .u8 (nth l kk) := by
      rw [List.getElem?_map, List.getElem?_eq_getElem (by rw [← HN.out]; exact hkN)] at hu0
      simp at hu0
      rw [← hu0, nth_eq l kk (by rw [← HN.out]; exact hkN)]
    subst hu1
    have f0 := own7.frozenAt kk
    go_wp2_with fail
    go_still_tail 12, (by kernel_rfl)
    change wpList _ _ _ _ _ w7.drew
    go_wp2_with fail
    have hbk := HLB.out (nth l kk) (by rw [nth_eq l kk (by rw [← HN.out]; exact hkN)]; exact List.getElem_mem _)
    obtain ⟨hv0, hvn⟩ := flip_ne hbk he8
    generalize bits .xor .u8 (nth l kk) ((2 : Int) ^ ee % 256) = V at *
    obtain ⟨o8, g8⟩ := own7.stored kk (.int .u8 V)
    have hbl : bys (l.set kk V) := fun q hq => by
      rcases List.mem_or_eq_of_mem_set hq with h | h
      · exact HLB.out q h
      · rw [h]; exact hv0
    have hbad : ¬ rdOk (l.set kk V) := rd_set HRD.out HLB.out (by rw [← HN.out]; exact hkN) hv0.1 hv0.2 (by rw [← nth_eq l kk (by rw [← HN.out]; exact hkN)]; exact hvn)
    have e8 : ∀ o, w7.heap[Q6]? = some o → (w7.setCell ⟨g, kk, none⟩ (.int .u8 V)).heap[Q6]? = some o := fun o h => blk_gr h g8 (fun e => by cases e; rcases own_ne_blk own7 r7 (by decide) with h | h; cases h; exact h rfl)
    have E8 : Ext w (w7.setCell ⟨g, kk, none⟩ (.int .u8 V)) := Ext.grown E7 g8 (fun q hq => by cases hq; have := hge7 g rfl; omega)
    have hgn : ∀ q, q < w6.heap.size → (some q : Option Nat) ≠ some g := fun q hq e => by cases e; have := hge7 g rfl; omega
    have o9 := o7.kept g8 (by
      cases hv : (Value.slice a1 N c1).ownBlock with
      | none => exact .inl rfl
      | some q => right; exact hgn q (HO.out q hv))
    have p9 := p7.kept g8 (by
      cases hv : (Value.slice a2 m c2).ownBlock with
      | none => exact .inl rfl
      | some q => right; exact hgn q (HPQ.out q hv))
    have r9 := e8 _ r7
    have oA : (w7.setCell ⟨g, kk, none⟩ (.int .u8 V)).ownsRow w6.heap.size 5 1 (.slice (some ⟨g, 0, none⟩) N cap) N ((l.set kk V).map (Value.int .u8)) := by rw [List.map_set]; exact o8
    have eD : Ext (w7.setCell ⟨g, kk, none⟩ (.int .u8 V)) (w7.setCell ⟨g, kk, none⟩ (.int .u8 V)).drew := Ext.drewN _ 1
    have oD := owns_ext oA eD
    have o10 := owns_ext o9 eD
    have p10 := owns_ext p9 eD
    have r10 := eD.blk r9
    have E10 := E8.trans eD
    generalize (w7.setCell ⟨g, kk, none⟩ (.int .u8 V)).drew = w10 at *
    have hcapD := owns_cap oD
    unfold maxLen at hcapD
    have hRB := impl_ReadPacket_any (some ⟨g, 0, none⟩) cap N (l.set kk V) w10 hcapD (by omega) (Sl.of_owns oD) hbl
    unfold RdR at hRB
    rw [rdP_no hbad, decide_eq_false hbad] at hRB
    have HRB := Lib.hid hRB
    have hok2 : Pkt.ok ⟨num, fr, row, part, last, ds⟩ := by rw [HP.out, rdP_yes HRD.out]; exact HRD.out.2.2.2.1
    have hpar : pby ⟨num, fr, row, part, last, ds⟩ = l := by rw [HP.out, rdP_yes HRD.out]; exact (rd_iff HLB.out HRD.out.1).2 HRD.out
    have hdsb : bys ds := by
      have : ds = (parse l).data := by have := congrArg Pkt.data HP.out; rw [rdP_yes HRD.out] at this; exact this
      rw [this]; exact fun z hz => HLB.out z (List.mem_of_mem_drop (List.mem_of_mem_take hz))
    have hV := fun (w : World) => impl_PacketValid_yes num fr row part last a2 m c2 w (by have h9 : pval num fr row part ds.length := hok2; rw [← Hmm.out] at h9; exact h9)
    have hPB := fun (w : World) (r : Sl w a2 m (ds.map (Value.int .u8))) => impl_PacketBytes_any ⟨num, fr, row, part, last, ds⟩ a2 c2 w (by show Sl w a2 ds.length _; rw [← Hmm.out]; exact r) hdsb
    simp only [pkV, hpar, ← Hmm.out, ← HN.out] at hPB
    have HV := Lib.hid hV
    have HPB := Lib.hid hPB
    clear hRB hbad hbl hv0 hvn hbk o8 g8 own7 d0 f0 hu0 o7 p7 r7 E7 e7 oA eD o9 p9 r9 E8 e8 hV hPB hok2 hpar hdsb hgn
    refine HRB.out.mono ?_
    rintro e w11 ⟨a11, c11, rfl, -, e11⟩
    have e12 := e11.trans (Ext.alloc w11 (.cells #[.int .i64 pkt0.num, .int .i64 pkt0.fr, .int .i64 pkt0.row, .int .i64 pkt0.part, .bool pkt0.last, .slice a11 pkt0.data.length c11] 27))
    simp only [pkt0, List.length_nil] at e12 ⊢
    have o12 := owns_ext o10 e12
    have p12 := owns_ext p10 e12
    have r12 := e12.blk r10
    have E12 := E10.trans e12
    clear o10 p10 r10 E10 e12 e11 oD HRB
    obtain ⟨z, m0, m1, m2, m3, m4, m5⟩ := bx6 r12
    go_wp2_with fail
    generalize w11.alloc (.cells #[.int .i64 0, .int .i64 0, .int .i64 0, .int .i64 0, .bool false, .slice a11 0 c11] 27) = w12 at *
    have hext : ∀ (i : Nat) (own : Value) (ys : Nat → Value) (wa wb : World), Ext wa wb → (match i with | 0 => own = .agg #[.int .i64 num, .int .i64 fr, .int .i64 row, .int .i64 part, .bool last, .slice a2 m c2] | 1 => own = .bool true | 2 => own = .bool true | 3 => own = .agg #[.int .i64 num, .int .i64 fr, .int .i64 row, .int .i64 part, .bool last, .slice a2 m c2] | 4 => ∃ (a4 : Option Addr) (c4 : Nat), own = .slice a4 N c4 ∧ wa.ownsRow w12.heap.size 5 1 (.slice a4 N c4) N (l.map (Value.int .u8)) | 5 => own = .string (strOfNums l) | 6 => own = .slice a1 N c1 | 7 => own = .string (strOfNums l) | 8 => own = .bool true | 9 => own = .bool true | 10 => own = .bool true | 11 => own = .bool false | 12 => own = .bool true | 13 => own = .bool true | 14 => own = .bool true | _ => True) → (match i with | 0 => own = .agg #[.int .i64 num, .int .i64 fr, .int .i64 row, .int .i64 part, .bool last, .slice a2 m c2] | 1 => own = .bool true | 2 => own = .bool true | 3 => own = .agg #[.int .i64 num, .int .i64 fr, .int .i64 row, .int .i64 part, .bool last, .slice a2 m c2] | 4 => ∃ (a4 : Option Addr) (c4 : Nat), own = .slice a4 N c4 ∧ wb.ownsRow w12.heap.size 5 1 (.slice a4 N c4) N (l.map (Value.int .u8)) | 5 => own = .string (strOfNums l) | 6 => own = .slice a1 N c1 | 7 => own = .string (strOfNums l) | 8 => own = .bool true | 9 => own = .bool true | 10 => own = .bool true | 11 => own = .bool false | 12 => own = .bool true | 13 => own = .bool true | 14 => own = .bool true | _ => True) := by
      intro i own ys wa wb e h
      match i, h with
      | 0, h => exact h
      | 1, h => exact h
      | 2, h => exact h
      | 3, h => exact h
      | 4, h => obtain ⟨a2, c2, h1, h2⟩ := h; exact ⟨a2, c2, h1, owns_ext h2 e⟩
      | 5, h => exact h
      | 6, h => exact h
      | 7, h => exact h
      | 8, h => exact h
      | 9, h => exact h
      | 10, h => exact h
      | 11, h => exact h
      | 12, h => exact h
      | 13, h => exact h
      | 14, h => exact h
      | _ + 15, _ => trivial
    have Hext := Lib.hid hext
    clear hext
    refine wp_region_inv2 (by kernel_rfl) [(4, 14), (76, 0), (77, 1), (78, 2), (79, 3), (80, 4), (81, 5), (82, 6), (83, 7), (84, 8), (85, 9), (86, 10), (87, 11), (88, 12), (89, 13)] [[], [0], [0, 1], [0, 1, 2], [0, 1, 2, 3], [0, 1, 2, 3, 4], [0, 1, 2], [0, 1, 2, 6], [0, 1, 2, 3, 4, 5, 6, 7], [0, 1, 2, 3, 4, 5, 6, 7, 8], [0, 1, 2, 3, 4, 5, 6, 7, 8, 9], [0, 1, 2, 3, 4, 5, 6, 7, 8, 9, 10], [0, 1, 2, 3, 4, 5, 6, 7, 8, 9, 10, 11], [0, 1, 2, 3, 4, 5, 6, 7, 8, 9, 10, 11, 12], [0, 1, 2, 3, 4, 5, 6, 7, 8, 9, 10, 11, 12, 13]] (fun i own ys wx => match i with | 0 => own = .agg #[.int .i64 num, .int .i64 fr, .int .i64 row, .int .i64 part, .bool last, .slice a2 m c2] | 1 => own = .bool true | 2 => own = .bool true | 3 => own = .agg #[.int .i64 num, .int .i64 fr, .int .i64 row, .int .i64 part, .bool last, .slice a2 m c2] | 4 => ∃ (a4 : Option Addr) (c4 : Nat), own = .slice a4 N c4 ∧ wx.ownsRow w12.heap.size 5 1 (.slice a4 N c4) N (l.map (Value.int .u8)) | 5 => own = .string (strOfNums l) | 6 => own = .slice a1 N c1 | 7 => own = .string (strOfNums l) | 8 => own = .bool true | 9 => own = .bool true | 10 => own = .bool true | 11 => own = .bool false | 12 => own = .bool true | 13 => own = .bool true | 14 => own = .bool true | _ => True) (fun kx wx => Ext w12 wx) (by kernel_rfl) (by kernel_rfl) (by kernel_rfl) ?g0_r1 ?gop_r1 ?gend_r1
    case g0_r1 => exact Ext.drewN _ 1
    case gop_r1 =>
      refine ⟨?_, ?_, ?_, ?_, ?_, ?_, ?_, ?_, ?_, ?_, ?_, ?_, ?_, ?_, ?_, trivial⟩
      · intro kx xs wx hk hG hD hI Qo Kx hK hQo
        clear hD
        clear hI
        simp only [patchS, Nat.reduceAdd, Nat.reduceEqDiff, ↓reduceIte] at hQo ⊢
        have k0 := cell_ext hG m0
        have k1 := cell_ext hG m1
        have k2 := cell_ext hG m2
        have k3 := cell_ext hG m3
        have k4 := cell_ext hG m4
        have k5 := cell_ext hG m5
        go_wp2
        exact hK.out _ _ ⟨rfl, hG, fun _ _ _ _ _ _ h => h⟩
      · intro kx xs wx hk hG hD hI Qo Kx hK hQo
        have d0 : (xs 0) = .agg #[.int .i64 num, .int .i64 fr, .int .i64 row, .int .i64 part, .bool last, .slice a2 m c2] := hD 0 rfl
        clear hD
        clear hI
        simp only [patchS, Nat.reduceAdd, Nat.reduceEqDiff, ↓reduceIte] at hQo ⊢
        generalize xs 0 = y0 at *
        subst d0
        go_wp2_with fail
        refine (HV.out _).mono ?_
        rintro e w8 ⟨rfl, e8⟩
        go_wp2
        exact hK.out _ _ ⟨rfl, hG.trans e8, fun i _ _ _ own ys h => Hext.out i own ys _ _ e8 h⟩
      · intro kx xs wx hk hG hD hI Qo Kx hK hQo
        have d1 : (xs 1) = .bool true := hD 1 rfl
        clear hD
        clear hI
        simp only [patchS, Nat.reduceAdd, Nat.reduceEqDiff, ↓reduceIte] at hQo ⊢
        generalize xs 1 = y1 at *
        subst d1
        go_wp2
        exact hK.out _ _ ⟨rfl, hG, fun _ _ _ _ _ _ h => h⟩
      · intro kx xs wx hk hG hD hI Qo Kx hK hQo
        have d2 : (xs 2) = .bool true := hD 2 rfl
        clear hD
        clear hI
        simp only [patchS, Nat.reduceAdd, Nat.reduceEqDiff, ↓reduceIte] at hQo ⊢
        generalize xs 2 = y2 at *
        subst d2
        have k0 := cell_ext hG m0
        have k1 := cell_ext hG m1
        have k2 := cell_ext hG m2
        have k3 := cell_ext hG m3
        have k4 := cell_ext hG m4
        have k5 := cell_ext hG m5
        go_wp2
        exact hK.out _ _ ⟨rfl, hG, fun _ _ _ _ _ _ h => h⟩
      · intro kx xs wx hk hG hD hI Qo Kx hK hQo
        have d3 : (xs 3) = .agg #[.int .i64 num, .int .i64 fr, .int .i64 row, .int .i64 part, .bool last, .slice a2 m c2] := hD 3 rfl
        have d2 : (xs 2) = .bool true := hD 2 rfl
        clear hD
        clear hI
        simp only [patchS, Nat.reduceAdd, Nat.reduceEqDiff, ↓reduceIte] at hQo ⊢
        generalize xs 3 = y3 at *
        generalize xs 2 = y2 at *
        subst d3
        subst d2
        go_wp2_with fail
        refine (HPB.out _ ((Sl.of_owns p12).ext hG)).mono ?_
        rintro e w8 ⟨a8, c8, rfl, own8, e8⟩
        go_wp2
        exact hK.out _ _ ⟨⟨a8, c8, rfl, owns_mono own8 hG.size⟩, hG.trans e8, fun i _ _ _ own ys h => Hext.out i own ys _ _ e8 h⟩
      · intro kx xs wx hk hG hD hI Qo Kx hK hQo
        have d4 : ∃ (a4 : Option Addr) (c4 : Nat), (xs 4) = .slice a4 N c4 ∧ wx.ownsRow w12.heap.size 5 1 (.slice a4 N c4) N (l.map (Value.int .u8)) := hD 4 rfl
        have d2 : (xs 2) = .bool true := hD 2 rfl
        clear hD
        clear hI
        simp only [patchS, Nat.reduceAdd, Nat.reduceEqDiff, ↓reduceIte] at hQo ⊢
        generalize xs 4 = y4 at *
        generalize xs 2 = y2 at *
        obtain ⟨a4', c4', rfl, o4⟩ := d4
        subst d2
        have hcv := conv_own wx _ a4' N c4' l o4
        go_wp2
        exact hK.out _ _ ⟨rfl, hG, fun _ _ _ _ _ _ h => h⟩
      · intro kx xs wx hk hG hD hI Qo Kx hK hQo
        have d2 : (xs 2) = .bool true := hD 2 rfl
        clear hD
        clear hI
        simp only [patchS, Nat.reduceAdd, Nat.reduceEqDiff, ↓reduceIte] at hQo ⊢
        generalize xs 2 = y2 at *
        subst d2
        go_wp2
        exact hK.out _ _ ⟨rfl, hG, fun _ _ _ _ _ _ h => h⟩
      · intro kx xs wx hk hG hD hI Qo Kx hK hQo
        have d6 : (xs 6) = .slice a1 N c1 := hD 6 rfl
        have d2 : (xs 2) = .bool true := hD 2 rfl
        clear hD
        clear hI
        simp only [patchS, Nat.reduceAdd, Nat.reduceEqDiff, ↓reduceIte] at hQo ⊢
        generalize xs 6 = y6 at *
        generalize xs 2 = y2 at *
        subst d6
        subst d2
        have hcv := conv_own wx _ a1 N c1 l (owns_ext o12 hG)
        go_wp2
        exact hK.out _ _ ⟨rfl, hG, fun _ _ _ _ _ _ h => h⟩
      · intro kx xs wx hk hG hD hI Qo Kx hK hQo
        have d5 : (xs 5) = .string (strOfNums l) := hD 5 rfl
        have d7 : (xs 7) = .string (strOfNums l) := hD 7 rfl
        have d2 : (xs 2) = .bool true := hD 2 rfl
        clear hD
        clear hI
        simp only [patchS, Nat.reduceAdd, Nat.reduceEqDiff, ↓reduceIte] at hQo ⊢
        generalize xs 5 = y5 at *
        generalize xs 7 = y7 at *
        generalize xs 2 = y2 at *
        subst d5
        subst d7
        subst d2
        go_wp2
        exact hK.out _ _ ⟨by first | rfl | (simp; done), hG, fun _ _ _ _ _ _ h => h⟩
      · intro kx xs wx hk hG hD hI Qo Kx hK hQo
        have d2 : (xs 2) = .bool true := hD 2 rfl
        have d8 : (xs 8) = .bool true := hD 8 rfl
        clear hD
        clear hI
        simp only [patchS, Nat.reduceAdd, Nat.reduceEqDiff, ↓reduceIte] at hQo ⊢
        generalize xs 2 = y2 at *
        generalize xs 8 = y8 at *
        subst d2
        subst d8
        go_wp2
        exact hK.out _ _ ⟨rfl, hG, fun _ _ _ _ _ _ h => h⟩
      · intro kx xs wx hk hG hD hI Qo Kx hK hQo
        have d9 : (xs 9) = .bool true := hD 9 rfl
        clear hD
        clear hI
        simp only [patchS, Nat.reduceAdd, Nat.reduceEqDiff, ↓reduceIte] at hQo ⊢
        generalize xs 9 = y9 at *
        subst d9
        go_wp2
        exact hK.out _ _ ⟨rfl, hG, fun _ _ _ _ _ _ h => h⟩
      · intro kx xs wx hk hG hD hI Qo Kx hK hQo
        have d10 : (xs 10) = .bool true := hD 10 rfl
        clear hD
        clear hI
        simp only [patchS, Nat.reduceAdd, Nat.reduceEqDiff, ↓reduceIte] at hQo ⊢
        generalize xs 10 = y10 at *
        subst d10
        go_wp2
        exact hK.out _ _ ⟨rfl, hG, fun _ _ _ _ _ _ h => h⟩
      · intro kx xs wx hk hG hD hI Qo Kx hK hQo
        have d11 : (xs 11) = .bool false := hD 11 rfl
        have d10 : (xs 10) = .bool true := hD 10 rfl
        clear hD
        clear hI
        simp only [patchS, Nat.reduceAdd, Nat.reduceEqDiff, ↓reduceIte] at hQo ⊢
        generalize xs 11 = y11 at *
        generalize xs 10 = y10 at *
        subst d11
        subst d10
        go_wp2
        exact hK.out _ _ ⟨rfl, hG, fun _ _ _ _ _ _ h => h⟩
      · intro kx xs wx hk hG hD hI Qo Kx hK hQo
        have d10 : (xs 10) = .bool true := hD 10 rfl
        have d12 : (xs 12) = .bool true := hD 12 rfl
        clear hD
        clear hI
        simp only [patchS, Nat.reduceAdd, Nat.reduceEqDiff, ↓reduceIte] at hQo ⊢
        generalize xs 10 = y10 at *
        generalize xs 12 = y12 at *
        subst d10
        subst d12
        go_wp2
        exact hK.out _ _ ⟨rfl, hG, fun _ _ _ _ _ _ h => h⟩
      · intro kx xs wx hk hG hD hI Qo Kx hK hQo
        have d13 : (xs 13) = .bool true := hD 13 rfl
        clear hD
        clear hI
        simp only [patchS, Nat.reduceAdd, Nat.reduceEqDiff, ↓reduceIte] at hQo ⊢
        generalize xs 13 = y13 at *
        subst d13
        go_wp2
        exact hK.out _ _ ⟨rfl, hG, fun _ _ _ _ _ _ h => h⟩
    clear Hext
    intro xs wx hV hG
    have d0 : (xs 0) = .agg #[.int .i64 num, .int .i64 fr, .int .i64 row, .int .i64 part, .bool last, .slice a2 m c2] := hV 0 (by decide)
    have d1 : (xs 1) = .bool true := hV 1 (by decide)
    have d2 : (xs 2) = .bool true := hV 2 (by decide)
    have d3 : (xs 3) = .agg #[.int .i64 num, .int .i64 fr, .int .i64 row, .int .i64 part, .bool last, .slice a2 m c2] := hV 3 (by decide)
    have d4 : ∃ (a4 : Option Addr) (c4 : Nat), (xs 4) = .slice a4 N c4 ∧ wx.ownsRow w12.heap.size 5 1 (.slice a4 N c4) N (l.map (Value.int .u8)) := hV 4 (by decide)
    have d5 : (xs 5) = .string (strOfNums l) := hV 5 (by decide)
    have d6 : (xs 6) = .slice a1 N c1 := hV 6 (by decide)
    have d7 : (xs 7) = .string (strOfNums l) := hV 7 (by decide)
    have d8 : (xs 8) = .bool true := hV 8 (by decide)
    have d9 : (xs 9) = .bool true := hV 9 (by decide)
    have d10 : (xs 10) = .bool true := hV 10 (by decide)
    have d11 : (xs 11) = .bool false := hV 11 (by decide)
    have d12 : (xs 12) = .bool true := hV 12 (by decide)
    have d13 : (xs 13) = .bool true := hV 13 (by decide)
    have d14 : (xs 14) = .bool true := hV 14 (by decide)
    clear hV
    simp only [patchS, Nat.reduceAdd, Nat.reduceEqDiff, ↓reduceIte]
    generalize xs 0 = y0 at *
    generalize xs 1 = y1 at *
    generalize xs 2 = y2 at *
    generalize xs 3 = y3 at *
    generalize xs 4 = y4 at *
    generalize xs 5 = y5 at *
    generalize xs 6 = y6 at *
    generalize xs 7 = y7 at *
    generalize xs 8 = y8 at *
    generalize xs 9 = y9 at *
    generalize xs 10 = y10 at *
    generalize xs 11 = y11 at *
    generalize xs 12 = y12 at *
    generalize xs 13 = y13 at *
    generalize xs 14 = y14 at *
    replace hG : Ext w12 wx := hG
    clear d0 d1 d2 d3 d4 d5 d6 d7 d8 d9 d10 d11 d12 d13
    subst d14
    go_wp2
    go_ret
    exact ⟨rfl, E12.trans hG⟩
end Go.Proofs.Ytpjjadmjdafkeaa
