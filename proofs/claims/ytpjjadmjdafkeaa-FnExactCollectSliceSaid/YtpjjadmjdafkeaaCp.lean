/- CollectSlice: the program's contracts. -/
import Derived.Test.YtpjjadmjdafkeaaCo
import Derived.Test.YtpjjadmjdafkeaaK5
import Derived.Test.YtpjjadmjdafkeaaApp
namespace Go.Proofs.Ytpjjadmjdafkeaa
open Go.RowKit Go.Maps
set_option maxHeartbeats 400000
theorem held_rd (v : Value) : heldR v = some (.held v, []) := rfl
set_option maxRecDepth 100000 in
set_option maxHeartbeats 1000000 in
theorem impl_received_any (a : Option Addr) (c n : Nat) (L : List Pkt) (A : Nat → Option Addr) (C : Nat → Nat) (w : World) (hn : n < 2^40) (r : KPV w a n L A C) (wf : ∀ x ∈ L, wfI x.fr ∧ wfI x.row ∧ wfI x.part) :
    Calls Try.prog 66 #[.slice a n c] w fun e w' => ∃ D, e = .returned (.map (some w.heap.size)) ∧ w'.ownsMap Try.prog 101 heldR w.heap.size n D ∧ MapP L A C D n ∧ Ext w w' := by
  have hmm := @run_makeMap Try.prog
  have Wf := Lib.hid wf
  clear wf
  go_enter Try.func66, Try.ntmps66
  go_wp2
  go_loopw [12] (fun i wr => ∃ (k : Nat) (D : DataW Value), k ≤ n ∧ i = .int .i64 k ∧ Ext w wr ∧ wr.ownsMap Try.prog 101 heldR w.heap.size k D ∧ MapP L A C D k) (fun i _ => n - (intOf i).toNat)
  case atStart => exact ⟨0, _, by omega, rfl, Ext.alloc _ _, World.ownsMap_made _ _ _ _, MapP.nil _ _ _⟩
  case round =>
    obtain ⟨k, D, hk, rfl, E2, own2, mp⟩ := hrel
    by_cases hlt : k < n
    · obtain ⟨b1, o1, rfl, ⟨j1, j2, j3, j4, j5, j6⟩, -, hc1, hc2⟩ := (r.ext E2).2 k hlt
      have hkl : k < L.length := by rw [r.1]; exact hlt
      obtain ⟨v1, v2, v3⟩ : wfI (kget L k).fr ∧ wfI (kget L k).row ∧ wfI (kget L k).part := by rw [kget_eq L k hkl]; exact Wf.out _ (List.getElem_mem _)
      have hm := mp.2 _ _ _ v1 v2 v3
      have hkey := keyOf_P v1 v2 v3
      have hput := fun (hok : (kget L k).ok) hs => mp.put (fun h1 h2 h3 h4 h5 h6 e => pkey_inj h1 h2 h3 h4 h5 h6 e) v1 v2 v3 hok hs
      have hskip := mp.skip
      have hval : kval L A C k = .agg #[.int .i64 (kget L k).num, .int .i64 (kget L k).fr, .int .i64 (kget L k).row, .int .i64 (kget L k).part, .bool (kget L k).last, .slice (A k) (kget L k).data.length (C k)] := rfl
      have hok : (kget L k).ok ↔ pval (kget L k).num (kget L k).fr (kget L k).row (kget L k).part (kget L k).data.length := Iff.rfl
      unfold wfI at v1 v2 v3
      generalize ffind L (kget L k).fr (kget L k).row (kget L k).part k = fo at *
      generalize kval L A C k = vk at *
      generalize (kget L k).ok = okk at *
      generalize pkey (kget L k).fr (kget L k).row (kget L k).part = kl at *
      generalize kget L k = P at *
      obtain ⟨num, fr, row, part, last, ds⟩ := P
      simp only at j1 j2 j3 j4 j5 j6 hm hkey hput hskip hval hok hc1
      have HP := Lib.hid hput
      have HK := Lib.hid hskip
      have HV := Lib.hid hval
      have HO := Lib.hid hok
      clear hput hskip hval hok mp v1 v2 v3
      have p1 := blk_new wr (.cells #[.int .i64 num, .int .i64 fr, .int .i64 row, .int .i64 part, .bool last, .slice (A k) ds.length (C k)] 27)
      have p2 := blk_new (wr.alloc (.cells #[.int .i64 num, .int .i64 fr, .int .i64 row, .int .i64 part, .bool last, .slice (A k) ds.length (C k)] 27)) (.cells #[.int .i64 fr, .int .i64 row, .int .i64 part] 101)
      simp only [World.size_alloc] at p2
      have p1' := blk_alloc p1 (.cells #[.int .i64 fr, .int .i64 row, .int .i64 part] 101)
      have e2 : Ext wr ((wr.alloc (.cells #[.int .i64 num, .int .i64 fr, .int .i64 row, .int .i64 part, .bool last, .slice (A k) ds.length (C k)] 27)).alloc (.cells #[.int .i64 fr, .int .i64 row, .int .i64 part] 101)) := (Ext.alloc _ _).trans (Ext.alloc _ _)
      cases fo with
      | some i =>
        have hh : has D kl = true := hm.1
        have hat := hm.2
        simp only [kval] at hat
        generalize kget L i = P2 at hat
        obtain ⟨num2, fr2, row2, part2, last2, ds2⟩ := P2
        simp only at hat
        have hs := Lib.hid (HK.out (.inr rfl))
        have own3 := ownsMap_ext own2 e2
        have E3 := E2.trans e2
        have E4 := fun o => E3.trans (Ext.alloc ((wr.alloc (.cells #[.int .i64 num, .int .i64 fr, .int .i64 row, .int .i64 part, .bool last, .slice (A k) ds.length (C k)] 27)).alloc (.cells #[.int .i64 fr, .int .i64 row, .int .i64 part] 101)) o)
        clear HP HK HV HO hm own2 E2
        go_wp2_with (at_lookup; refine wpList_lookup_held _ rfl _ _ 80 rfl 101 27 keyed_P Try.underlying80 (zero_Packet _) w.heap.size k D rfl own3 _ _ rfl hkey _ _ hh hat ?_)
        go_roundw
        case rel => exact ⟨k + 1, D, by omega, by go_num, E4 _, own3.mono (by omega) |>.alloc _, hs.out⟩
        case measure => simp [intOf]; omega
      | none =>
        have hh : has D kl = false := hm.1
        have hat := hm.2
        simp only [pval0] at hat
        have own3 := ownsMap_ext own2 e2
        have E3 := E2.trans e2
        have E4 := fun o => E3.trans (Ext.alloc ((wr.alloc (.cells #[.int .i64 num, .int .i64 fr, .int .i64 row, .int .i64 part, .bool last, .slice (A k) ds.length (C k)] 27)).alloc (.cells #[.int .i64 fr, .int .i64 row, .int .i64 part] 101)) o)
        have own4 := fun o => own3.alloc o
        clear hm own2 E2
        by_cases hpv : pval num fr row part ds.length
        · have hs := Lib.hid (HP.out (HO.out.2 hpv) rfl)
          go_wp2_with (at_lookup; refine wpList_lookup_held _ rfl _ _ 80 rfl 101 27 keyed_P Try.underlying80 (zero_Packet _) w.heap.size k D rfl own3 _ _ rfl hkey _ _ hh hat ?_)
          refine (impl_PacketValid_yes num fr row part last (A k) ds.length (C k) _ hpv).mono ?_
          rintro e w4 ⟨rfl, e4⟩
          have E5 := (E4 _).trans e4
          have own5 := ownsMap_ext (own4 _) e4
          have q1 := e4.blk (blk_alloc p1' _)
          have q2 := e4.blk (blk_alloc p2 _)
          obtain ⟨m0, m1, m2, m3, m4, m5, m6⟩ := bx6 q1
          obtain ⟨n0, n1, n2, n3, n4, n5, n6⟩ := bx3 q2
          rw [HV.out] at hs
          clear own3 own4 E3 E4 p1 p2 p1' e2 e4 HV HP HK HO q1 q2
          go_wp2_with (at_mapUpdate; refine wpList_mapUpdate_own _ rfl _ _ _ 80 rfl 101 27 keyed_P Try.underlying80 _ w.heap.size k _ rfl own5 (by unfold maxLen; omega) _ _ _ rfl rfl hkey _ [] (held_rd _) ?_; intro w1 hown1 hgrow1)
          go_roundw
          case rel => exact ⟨k + 1, _, by omega, by go_num, Ext.grown E5 hgrow1 (fun q hq => by cases hq; exact Nat.le_refl _), hown1, hs.out⟩
          case measure => simp [intOf]; omega
        · have hs := Lib.hid (HK.out (.inl (fun h => hpv (HO.out.1 h))))
          go_wp2_with (at_lookup; refine wpList_lookup_held _ rfl _ _ 80 rfl 101 27 keyed_P Try.underlying80 (zero_Packet _) w.heap.size k D rfl own3 _ _ rfl hkey _ _ hh hat ?_)
          refine (impl_PacketValid_no num fr row part last (A k) ds.length (C k) _ hpv).mono ?_
          rintro e w4 ⟨rfl, e4⟩
          have E5 := (E4 _).trans e4
          have own5 := ownsMap_ext (own4 _) e4
          clear own3 own4 E3 E4 p1 p2 p1' e2 e4 HV HP HK HO hpv
          go_wp2
          go_roundw
          case rel => exact ⟨k + 1, D, by omega, by go_num, E5, own5.mono (by omega), hs.out⟩
          case measure => simp [intOf]; omega
    · obtain rfl : k = n := by omega
      go_wp2
      go_ret
      exact ⟨D, rfl, own2, mp, E2⟩
/-- What CollectSlice answers. -/
def CoR (base : Nat) (w w' : World) (R : Option (List Int)) (e : Ending) : Prop := ∃ (a : Option Addr) (c : Nat), e = .returned (.tuple #[.slice a (R.getD []).length c, .bool R.isSome]) ∧ w'.ownsRow base 5 1 (.slice a (R.getD []).length c) (R.getD []).length ((R.getD []).map (Value.int .u8)) ∧ Ext w w'
theorem one_u8 (ds : List Int) : ∀ u ∈ ds.map (Value.int .u8), u.oneCell' = true := by
  intro u hu; simp at hu; obtain ⟨z, -, rfl⟩ := hu; rfl
theorem map_app_u8 (xs ys : List Int) : (xs ++ ys).map (Value.int .u8) = xs.map (Value.int .u8) ++ ys.map (Value.int .u8) := by simp
set_option maxRecDepth 100000 in
set_option maxHeartbeats 1000000 in
theorem impl_collectSlice_any (b : Nat) (f r : Int) (w w0 : World) (a : Option Addr) (n m : Nat) (L : List Pkt) (A : Nat → Option Addr) (C : Nat → Nat) (D : DataW Value) (hr : KPV w a n L A C) (hf : wfI f) (hrw : wfI r) (own : w.ownsMap Try.prog 101 heldR b m D) (mp : MapP L A C D n) :
    Calls Try.prog 65 #[.map (some b), .int .i64 f, .int .i64 r] w fun e w' => CoR w.heap.size w w' (coll L f r) e := by
  obtain ⟨R, hR⟩ : ∃ R, R = coll L f r := ⟨_, rfl⟩
  rw [← hR]
  have H0 : Hid (cfrom L f r n 256 0 [] = R) := Lib.hid (by rw [hR, coll, hr.1])
  clear hR
  go_enter Try.func65, Try.ntmps65
  go_wp2
  go_loopw [8, 12] (fun v i wr => ∃ (p : Nat) (acc : List Int), p ≤ 256 ∧ i = .int .i64 p ∧ Ext w wr ∧ wr.ownsRow w.heap.size 5 1 v acc.length (acc.map (Value.int .u8)) ∧ acc.length ≤ p * 200 ∧ Hid (cfrom L f r n (256 - p) p acc = R)) (fun _ i _ => 256 - (intOf i).toNat)
  case atStart => exact ⟨0, [], by omega, rfl, Below.refl _ _, World.ownsRow_nil _ _ _ _, by simp, H0⟩
  case round =>
    obtain ⟨p, acc, hp, rfl, E2, row2, hal, HR⟩ := hrel
    clear H0
    by_cases hlt : p < 256
    · have hwp : wfI (p : Int) := wf_small (by omega) (by omega)
      have hkey := keyOf_P hf hrw hwp
      have hm := mp.2 _ _ _ hf hrw hwp
      have hcf : cfrom L f r n (256 - p) p acc = match ffind L f r (p : Int) n with
          | none => none
          | some i => if (kget L i).last then some (acc ++ (kget L i).data) else cfrom L f r n (256 - (p + 1)) (p + 1) (acc ++ (kget L i).data) := by
        rw [show 256 - p = (256 - (p + 1)) + 1 by omega]; rfl
      have own2 := ownsMap_ext own E2
      have hfl := fun i h => @ffind_lt L f r (p : Int) n i h
      have hdl := fun i h => @kok_len L f r (p : Int) i (hfl i h).2
      rw [hcf] at HR
      generalize pkey f r (p : Int) = kl at *
      generalize ffind L f r (p : Int) n = fo at *
      cases fo with
      | none =>
        have hh : has D kl = false := hm.1
        have hat := hm.2
        simp only [pval0] at hat
        have hres : R = none := HR.out.symm
        subst hres
        clear hcf hfl hdl hm HR own row2
        go_wp2_with (at_lookup; refine wpList_lookup_held _ rfl _ _ 80 rfl 101 27 keyed_P Try.underlying80 (zero_Packet _) b m D rfl own2 _ _ rfl hkey _ _ hh hat ?_)
        go_ret2
        exact ⟨none, 0, rfl, World.ownsRow_nil _ _ _ _, E2.trans (Ext.alloc _ _)⟩
      | some i =>
        have hh : has D kl = true := hm.1
        have hat := hm.2
        simp only [kval] at hat
        have hi := (hfl i rfl).1
        have hd := hdl i rfl
        obtain ⟨b1, o1, ha, -, hsl, hc1, hc2⟩ := (hr.ext E2).2 i hi
        simp only at HR
        generalize kget L i = P at *
        obtain ⟨num, fr, row, part, last, ds⟩ := P
        simp only at hat hd hsl hc1 HR
        generalize A i = ai at *
        generalize C i = ci at *
        have p1 := blk_new wr (.cells #[.int .i64 num, .int .i64 fr, .int .i64 row, .int .i64 part, .bool last, .slice ai ds.length ci] 27)
        have e3 := Ext.alloc wr (.cells #[.int .i64 num, .int .i64 fr, .int .i64 row, .int .i64 part, .bool last, .slice ai ds.length ci] 27)
        have E3 := E2.trans e3
        have s3 := hsl.ext e3
        have row3 := owns_ext row2 e3
        have hsz := E3.size
        clear hcf hfl hdl hm own hsl row2 e3
        go_wp2_with (first | (at_lookup; refine wpList_lookup_held _ rfl _ _ 80 rfl 101 27 keyed_P Try.underlying80 (zero_Packet _) b m D rfl own2 _ _ rfl hkey _ _ hh hat ?_) | (at_builtin; refine wpList_apps _ row3 hsz rfl _ _ 22 rfl (.int .u8 0) 1 Try.underlying22 info_uint8 rfl rfl ai ds.length ci _ rfl s3 (one_u8 ds) (by omega) (by omega) ?_; intro v8 w8 own8 gr8; refine Hid.out ?_))
        rw [← map_app_u8, ← List.length_append] at own8
        obtain ⟨a8, c8, rfl⟩ := owns_form own8
        have E8 : Ext w w8 := Ext.grown E3 gr8 (owns_ge row3)
        have q1 := blk_gr p1 gr8 (by
          rcases own_ne_blk row3 p1 (by decide) with h | h
          · rw [h]; simp
          · exact h)
        obtain ⟨m0, m1, m2, m3, m4, m5, m6⟩ := bx6 q1
        have hlen : (acc ++ ds).length ≤ (p + 1) * 200 := by rw [List.length_append]; omega
        clear p1 q1 gr8 row3 s3 E3 own2 E2
        refine Lib.hid ?_
        cases last with
        | true =>
          have hres : R = some (acc ++ ds) := HR.out.symm
          subst hres
          clear HR
          go_wp2
          go_ret2
          exact ⟨a8, c8, rfl, own8, E8⟩
        | false =>
          have HR2 := Lib.hid HR.out
          clear HR
          go_wp2
          go_roundw
          case rel => exact ⟨p + 1, acc ++ ds, by omega, by go_num, E8, own8, hlen, HR2⟩
          case measure => simp [intOf]; omega
    · obtain rfl : p = 256 := by omega
      have hres : R = none := HR.out.symm
      subst hres
      go_wp2
      go_ret2
      exact ⟨none, 0, rfl, World.ownsRow_nil _ _ _ _, E2⟩
theorem impl_CollectSlice_any (a : Option Addr) (c n : Nat) (L : List Pkt) (f r : Int) (w : World) (hn : n < 2^40) (hk : KP w a n L) (wf : ∀ x ∈ L, wfI x.fr ∧ wfI x.row ∧ wfI x.part) (hf : wfI f) (hr : wfI r) :
    Calls Try.prog 41 #[.slice a n c, .int .i64 f, .int .i64 r] w fun e w' => CoR w.heap.size w w' (coll L f r) e := by
  obtain ⟨A, C, hkv⟩ := hk.choose
  go_enter Try.func41, Try.ntmps41
  go_wp2_with fail
  refine (impl_received_any a c n L A C w hn hkv wf).mono ?_
  rintro e w1 ⟨D, rfl, own1, mp, e1⟩
  go_wp2_with fail
  refine (impl_collectSlice_any w.heap.size f r w1 w a n n L A C D (hkv.ext e1) hf hr own1 mp).mono ?_
  rintro e w2 ⟨a2, c2, rfl, own2, e2⟩
  go_wp2
  go_ret2
  exact ⟨a2, c2, rfl, owns_mono own2 e1.size, e1.trans e2⟩
end Go.Proofs.Ytpjjadmjdafkeaa
