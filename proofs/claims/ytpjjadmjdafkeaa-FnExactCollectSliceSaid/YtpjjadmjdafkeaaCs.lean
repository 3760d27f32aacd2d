/- CollectSlice: the reference's contract. -/
import Derived.Test.YtpjjadmjdafkeaaCp
namespace Go.Proofs.Ytpjjadmjdafkeaa
open Go.RowKit Go.Maps
set_option maxHeartbeats 400000
set_option maxRecDepth 100000 in
set_option maxHeartbeats 2000000 in
theorem spec_CollectSlice_any (a : Option Addr) (c n : Nat) (L : List Pkt) (f r : Int) (w : World) (hn : n < 2^40) (hk : KP w a n L) :
    Calls Try.prog 40 #[.slice a n c, .int .i64 f, .int .i64 r] w fun e w' => CoR w.heap.size w w' (coll L f r) e := by
  obtain ⟨A, C, hr⟩ := hk.choose
  clear hk
  obtain ⟨R, hR⟩ : ∃ R, R = coll L f r := ⟨_, rfl⟩
  rw [← hR]
  have H0 : Hid (cfrom L f r n 256 0 [] = R) := Lib.hid (by rw [hR, coll, hr.1])
  clear hR
  have hown := World.ownsRow_made (base := w.heap.size) (e := 5) (size := 1) w #[] 0 (Nat.le_refl _) (by simp) rfl
  go_enter Try.func40, Try.ntmps40
  go_wp2
  have E1 : Ext w (w.alloc (.cells #[] 5)) := Ext.alloc _ _
  go_loopw [8, 9] (fun v i wr => ∃ (p : Nat) (acc : List Int), p ≤ 256 ∧ i = .int .i64 p ∧ Ext w wr ∧ wr.ownsRow w.heap.size 5 1 v acc.length (acc.map (Value.int .u8)) ∧ acc.length ≤ p * 200 ∧ Hid (cfrom L f r n (256 - p) p acc = R)) (fun _ i _ => 256 - (intOf i).toNat)
  case atStart => exact ⟨0, [], by omega, rfl, E1, by simpa using hown, by simp, H0⟩
  case round =>
    obtain ⟨p, acc, hp, rfl, E2, row2, hal, HR⟩ := hrel
    clear H0 hown E1
    by_cases hlt : p < 256
    · have hcf : cfrom L f r n (256 - p) p acc = match ffind L f r (p : Int) n with
          | none => none
          | some i => if (kget L i).last then some (acc ++ (kget L i).data) else cfrom L f r n (256 - (p + 1)) (p + 1) (acc ++ (kget L i).data) := by
        rw [show 256 - p = (256 - (p + 1)) + 1 by omega]; rfl
      rw [hcf] at HR
      have hfl := fun i h => @ffind_lt L f r (p : Int) n i h
      have hdl := fun i h => @kok_len L f r (p : Int) i (hfl i h).2
      have HF := Lib.hid hfl
      have HD := Lib.hid hdl
      clear hcf hfl hdl
      obtain ⟨wo, rfl⟩ : ∃ wo : World, wo = wr := ⟨_, rfl⟩
      have hdp : decide ((p : Int) < 256) = true := by simp; omega
      go_wp2
      clear hdp
      go_loopw [10, 11] (fun t kk wz => ∃ (k : Nat) (o : Option Nat), k ≤ n ∧ kk = .int .i64 ((k : Int) - 1) ∧ t = .int .i64 (atv o) ∧ Hid (Fnd L f r (p : Int) n k o) ∧ Ext wo wz) (fun _ kk _ => (intOf kk + 1).toNat)
      case atStart => exact ⟨n, none, by omega, rfl, rfl, Lib.hid (Fnd.none _ _ _ _ _), Below.refl _ _⟩
      case round =>
        obtain ⟨k, o, hkn, rfl, rfl, fnd, E3⟩ := hrel
        cases k with
        | succ j =>
          have hj : (((j + 1 : Nat) : Int) - 1) = (j : Int) := by omega
          rw [hj]
          clear hj
          have hmiss := fun hm => Lib.hid (fnd.out.miss hm)
          have hhit := fun hm => Lib.hid (Fnd.hit (L := L) (f := f) (r := r) (p := (p : Int)) (n := n) (k := j) (by omega) hm)
          have Hmiss := Lib.hid hmiss
          have Hhit := Lib.hid hhit
          have hrx := fun (wz' : World) (e : Ext wr wz') => (hr.ext (E2.trans (E3.trans e))).2 j (by omega)
          have hmd : (kget L j).ok ↔ pval (kget L j).num (kget L j).fr (kget L j).row (kget L j).part (kget L j).data.length := Iff.rfl
          have hkm := @kmatch_iff L f r (p : Int) j
          rw [hmd] at hkm
          have HKM := Lib.hid hkm
          clear hmiss hhit fnd hmd hkm
          generalize kmatch L f r (p : Int) j = km at *
          generalize kget L j = P at *
          obtain ⟨num, fr, row, part, last, ds⟩ := P
          simp only at hrx HKM
          generalize A j = ai at *
          generalize C j = ci at *
          have Hrx := Lib.hid hrx
          obtain ⟨b1, o1, rfl, ⟨j1, j2, j3, j4, j5, j6⟩, -, hc1, hc2⟩ := hrx wr (Below.refl _ _)
          have hlen : ds.length ≤ 9223372036854775807 := by unfold maxLen at hc2; omega
          clear hrx
          have hit_of : pval num fr row part ds.length → fr = f → row = r → part = (p : Int) → km = true := fun h1 h2 h3 h4 => HKM.out.2 ⟨h1, h2, h3, h4⟩
          have miss_of : ¬ (pval num fr row part ds.length ∧ fr = f ∧ row = r ∧ part = (p : Int)) → km = false := fun h => by
            cases hkm : km
            · rfl
            · exact absurd (HKM.out.1 hkm) h
          have Hit := Lib.hid hit_of
          have Miss := Lib.hid miss_of
          clear hit_of miss_of
          by_cases hpv : pval num fr row part ds.length
          · go_wp2_with fail
            refine (spec_PacketValid_yes num fr row part last ai ds.length ci _ hpv).mono ?_
            rintro e w4 ⟨rfl, e4⟩
            obtain ⟨b1', o1', hb, ⟨j1', j2', j3', j4', j5', j6'⟩, -⟩ := Hrx.out w4 e4
            simp only [Option.some.injEq, Addr.mk.injEq, and_true] at hb
            obtain ⟨rfl, rfl⟩ := hb
            have E4 := E3.trans e4
            clear e4 E3
            by_cases h1 : fr = f
            · subst h1
              by_cases h2 : row = r
              · subst h2
                by_cases h3 : part = (p : Int)
                · subst h3
                  have hres := Hhit.out (Hit.out hpv rfl rfl rfl)
                  clear Hhit Hmiss Hrx HKM Hit Miss hpv
                  go_wp2
                  go_roundw
                  case rel => exact ⟨j, some j, by omega, rfl, rfl, hres, E4⟩
                  case measure => simp [intOf] <;> omega
                · have hd : (part == (p : Int)) = false := by simpa using h3
                  have hres := Hmiss.out (Miss.out (fun h => h3 h.2.2.2))
                  clear Hhit Hmiss Hrx HKM Hit Miss hpv h3
                  go_wp2
                  go_roundw
                  case rel => exact ⟨j, o, by omega, rfl, rfl, hres, E4⟩
                  case measure => simp [intOf] <;> omega
              · have hd : (row == r) = false := by simpa using h2
                have hres := Hmiss.out (Miss.out (fun h => h2 h.2.2.1))
                clear Hhit Hmiss Hrx HKM Hit Miss hpv h2
                go_wp2
                go_roundw
                case rel => exact ⟨j, o, by omega, rfl, rfl, hres, E4⟩
                case measure => simp [intOf] <;> omega
            · have hd : (fr == f) = false := by simpa using h1
              have hres := Hmiss.out (Miss.out (fun h => h1 h.2.1))
              clear Hhit Hmiss Hrx HKM Hit Miss hpv h1
              go_wp2
              go_roundw
              case rel => exact ⟨j, o, by omega, rfl, rfl, hres, E4⟩
              case measure => simp [intOf] <;> omega
          · have hres := Hmiss.out (Miss.out (fun h => hpv h.1))
            go_wp2_with fail
            refine (spec_PacketValid_no num fr row part last ai ds.length ci _ hlen hpv).mono ?_
            rintro e w4 ⟨rfl, e4⟩
            have E4 := E3.trans e4
            clear e4 E3 Hhit Hmiss Hrx HKM Hit Miss hpv
            go_wp2
            go_roundw
            case rel => exact ⟨j, o, by omega, rfl, rfl, hres, E4⟩
            case measure => simp [intOf] <;> omega
        | zero =>
          have hj : (((0 : Nat) : Int) - 1) = -1 := by omega
          rw [hj]
          clear hj
          have hff := fnd.out.done
          rw [hff] at HR
          have Hff := Lib.hid hff
          have E4 := E2.trans E3
          have row4 := owns_ext row2 E3
          clear hff fnd E2 E3 row2
          cases o with
          | none =>
            have hres : R = none := HR.out.symm
            subst hres
            have hat : atv none = -1 := rfl
            rw [hat]
            clear HR hat HF HD Hff row4
            have hown := World.ownsRow_made (base := w.heap.size) (e := 5) (size := 1) wr #[] 0 E4.size (by simp) rfl
            have E5 := E4.trans (Ext.alloc wr (.cells #[] 5))
            go_wp2
            go_ret2
            exact ⟨_, _, rfl, hown, E5⟩
          | some i =>
            have hi := (HF.out i Hff.out).1
            have hd := HD.out i Hff.out
            have hat : atv (some i) = (i : Int) := rfl
            rw [hat]
            simp only at HR
            have hrx := fun (wz' : World) (e : Ext w wz') => (hr.ext e).2 i (by omega)
            clear HF HD Hff hat
            generalize kget L i = P at *
            obtain ⟨num, fr, row, part, last, ds⟩ := P
            simp only at hrx HR hd
            generalize A i = ai at *
            generalize C i = ci at *
            have Hrx := Lib.hid hrx
            obtain ⟨b1, o1, rfl, ⟨j1, j2, j3, j4, j5, j6⟩, hsl, hc1, hc2⟩ := hrx wr E4
            clear hrx
            have hsz := E4.size
            go_wp2_with (at_builtin; refine wpList_apps _ row4 hsz rfl _ _ 22 rfl (.int .u8 0) 1 Try.underlying22 info_uint8 rfl rfl ai ds.length ci _ rfl hsl (one_u8 ds) (by omega) (by omega) ?_; intro v8 w8 own8 gr8; refine Hid.out ?_)
            rw [← map_app_u8, ← List.length_append] at own8
            obtain ⟨a8, c8, rfl⟩ := owns_form own8
            have E8 : Ext w w8 := Ext.grown E4 gr8 (owns_ge row4)
            obtain ⟨b2, o2, hb, ⟨k1, k2, k3, k4, k5, k6⟩, -⟩ := Hrx.out w8 E8
            simp only [Option.some.injEq, Addr.mk.injEq, and_true] at hb
            obtain ⟨rfl, rfl⟩ := hb
            have hlen : (acc ++ ds).length ≤ (p + 1) * 200 := by rw [List.length_append]; omega
            clear Hrx row4 E4 gr8 hsl j1 j2 j3 j4 j5 j6
            refine Lib.hid ?_
            cases last with
            | true =>
              have hres : R = some (acc ++ ds) := HR.out.symm
              subst hres
              clear HR
              go_wp2
              go_ret2
              exact ⟨a8, c8, rfl, own8, E8⟩
            | false =>
              have HR2 := Lib.hid HR.out
              clear HR
              go_wp2
              go_roundw
              case rel => exact ⟨p + 1, acc ++ ds, by omega, by go_num, E8, own8, hlen, HR2⟩
              case measure => simp [intOf] <;> omega
    · obtain rfl : p = 256 := by omega
      have hres : R = none := HR.out.symm
      subst hres
      have hown := World.ownsRow_made (base := w.heap.size) (e := 5) (size := 1) wr #[] 0 E2.size (by simp) rfl
      have E5 := E2.trans (Ext.alloc wr (.cells #[] 5))
      go_wp2
      go_ret2
      exact ⟨_, _, rfl, hown, E5⟩
end Go.Proofs.Ytpjjadmjdafkeaa
