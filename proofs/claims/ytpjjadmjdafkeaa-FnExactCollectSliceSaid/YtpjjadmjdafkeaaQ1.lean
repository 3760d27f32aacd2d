/- Lists of packets: what they read as; copies with what they own. -/
import Derived.Test.YtpjjadmjdafkeaaK5
import Derived.Test.YtpjjadmjdafkeaaR1
import Derived.Test.YtpjjadmjdafkeaaPk
namespace Go.Proofs.Ytpjjadmjdafkeaa
open Go.RowKit
set_option maxHeartbeats 1000000
/-- The i-th packet. -/
def kget (L : List Pkt) (i : Nat) : Pkt := L.getD i pkt0
theorem kget_eq (L : List Pkt) (i : Nat) (h : i < L.length) : kget L i = L[i] := by simp [kget, h]
/-- The six cells at b, o read as a packet whose data lies in no block below g. -/
def PktAt (g : Nat) (w : World) (b o : Nat) (x : Pkt) : Prop :=
  ∃ (a : Option Addr) (n c : Nat), (w.cell? ⟨b, o, none⟩ = some (.int .i64 x.num) ∧ w.cell? ⟨b, o + 1, none⟩ = some (.int .i64 x.fr) ∧ w.cell? ⟨b, o + 2, none⟩ = some (.int .i64 x.row) ∧ w.cell? ⟨b, o + 3, none⟩ = some (.int .i64 x.part) ∧ w.cell? ⟨b, o + 4, none⟩ = some (.bool x.last) ∧ w.cell? ⟨b, o + 5, none⟩ = some (.slice a n c)) ∧ Sl w a n (x.data.map (Value.int .u8)) ∧ n ≤ c ∧ c ≤ maxLen ∧ ∀ y, a = some y → g ≤ y.block
/-- The slice at a of n packets reads as L. -/
def KP (w : World) (a : Option Addr) (n : Nat) (L : List Pkt) : Prop :=
  L.length = n ∧ ∀ i, i < n → ∃ b off, a = some ⟨b, off, none⟩ ∧ PktAt 0 w b (off + i * 6) (kget L i)
theorem PktAt.ext {g : Nat} {w w' : World} {b o : Nat} {x : Pkt} (h : PktAt g w b o x) (e : Ext w w') : PktAt g w' b o x := by
  obtain ⟨a, n, c, ⟨h1, h2, h3, h4, h5, h6⟩, h7, h8, h9, h10⟩ := h
  exact ⟨a, n, c, ⟨cell_ext e h1, cell_ext e h2, cell_ext e h3, cell_ext e h4, cell_ext e h5, cell_ext e h6⟩, h7.ext e, h8, h9, h10⟩
theorem PktAt.mono {g g' : Nat} {w : World} {b o : Nat} {x : Pkt} (h : PktAt g w b o x) (hg : g' ≤ g) : PktAt g' w b o x := by
  obtain ⟨a, n, c, h1, h4, h5, h6, h7⟩ := h
  exact ⟨a, n, c, h1, h4, h5, h6, fun y hy => Nat.le_trans hg (h7 y hy)⟩
theorem KP.ext {w w' : World} {a : Option Addr} {n : Nat} {L : List Pkt} (h : KP w a n L) (e : Ext w w') : KP w' a n L := by
  refine ⟨h.1, fun i hi => ?_⟩
  obtain ⟨b, off, ha, hs⟩ := h.2 i hi
  exact ⟨b, off, ha, hs.ext e⟩
/-- The world with the six cells of a packet written. -/
def put6 (w : World) (g o : Nat) (u0 u1 u2 u3 u4 u5 : Value) : World := (((((w.setCell ⟨g, o, none⟩ u0).setCell ⟨g, o + 1, none⟩ u1).setCell ⟨g, o + 2, none⟩ u2).setCell ⟨g, o + 3, none⟩ u3).setCell ⟨g, o + 4, none⟩ u4).setCell ⟨g, o + 5, none⟩ u5
theorem grown_st1 (w : World) (g o : Nat) (u : Value) : w.grownBy (w.setCell ⟨g, o, none⟩ u) (some g) := ⟨rfl, rfl, rfl, by simp, fun k _ hk => heap_setCell_other w ⟨g, o, none⟩ k u (fun e => hk (by simp [e]))⟩
theorem put6_grown (w : World) (g o : Nat) (u0 u1 u2 u3 u4 u5 : Value) : w.grownBy (put6 w g o u0 u1 u2 u3 u4 u5) (some g) :=
  grownBy_trans (grownBy_trans (grownBy_trans (grownBy_trans (grownBy_trans (grown_st1 _ _ _ _) (grown_st1 _ _ _ _)) (grown_st1 _ _ _ _)) (grown_st1 _ _ _ _)) (grown_st1 _ _ _ _)) (grown_st1 _ _ _ _)
theorem put6_cell {w : World} {g o b q : Nat} {u0 u1 u2 u3 u4 u5 : Value} (h : b ≠ g ∨ q < o ∨ o + 5 < q) : (put6 w g o u0 u1 u2 u3 u4 u5).cell? ⟨b, q, none⟩ = w.cell? ⟨b, q, none⟩ := by
  unfold put6
  repeat rw [World.cell?_setCell_other _ _ _ _ (by intro e; simp at e; omega)]
theorem put6_own {w : World} {base T g n c o : Nat} {cs : List Value} {u0 u1 u2 u3 u4 u5 : Value} (h : w.ownsRow base T 6 (.slice (some ⟨g, 0, none⟩) n c) n cs) :
    (put6 w g o u0 u1 u2 u3 u4 u5).ownsRow base T 6 (.slice (some ⟨g, 0, none⟩) n c) n ((((((cs.set o u0).set (o + 1) u1).set (o + 2) u2).set (o + 3) u3).set (o + 4) u4).set (o + 5) u5) :=
  ((((((h.stored o u0).1.stored (o + 1) u1).1.stored (o + 2) u2).1.stored (o + 3) u3).1.stored (o + 4) u4).1.stored (o + 5) u5).1
theorem put6_at {w : World} {base T g n c o : Nat} {cs : List Value} {u0 u1 u2 u3 u4 u5 : Value} (h : w.ownsRow base T 6 (.slice (some ⟨g, 0, none⟩) n c) n cs) (ho : o + 5 < n * 6) :
    (put6 w g o u0 u1 u2 u3 u4 u5).cell? ⟨g, o, none⟩ = some u0 ∧ (put6 w g o u0 u1 u2 u3 u4 u5).cell? ⟨g, o + 1, none⟩ = some u1 ∧ (put6 w g o u0 u1 u2 u3 u4 u5).cell? ⟨g, o + 2, none⟩ = some u2 ∧ (put6 w g o u0 u1 u2 u3 u4 u5).cell? ⟨g, o + 3, none⟩ = some u3 ∧ (put6 w g o u0 u1 u2 u3 u4 u5).cell? ⟨g, o + 4, none⟩ = some u4 ∧ (put6 w g o u0 u1 u2 u3 u4 u5).cell? ⟨g, o + 5, none⟩ = some u5 := by
  have h2 := put6_own (o := o) (u0 := u0) (u1 := u1) (u2 := u2) (u3 := u3) (u4 := u4) (u5 := u5) h
  have hl : cs.length = n * 6 := h.1
  refine ⟨?_, ?_, ?_, ?_, ?_, ?_⟩ <;> rw [h2.cellAt _ (by omega)] <;> simp [List.getElem?_set] <;> omega
theorem Sl.put6 {w : World} {g o n : Nat} {a : Option Addr} {xs : List Value} {u0 u1 u2 u3 u4 u5 : Value} (h : Sl w a n xs) (hg : ∀ y, a = some y → g + 1 ≤ y.block) : Sl (put6 w g o u0 u1 u2 u3 u4 u5) a n xs :=
  h.grown (put6_grown w g o u0 u1 u2 u3 u4 u5) (fun x hx e => by have := hg x hx; simp at e; omega)
theorem PktAt.put_other {w : World} {g o q : Nat} {x : Pkt} {u0 u1 u2 u3 u4 u5 : Value} (h : PktAt (g + 1) w g q x) (hq : q + 5 < o ∨ o + 5 < q) : PktAt (g + 1) (put6 w g o u0 u1 u2 u3 u4 u5) g q x := by
  obtain ⟨a, n, c, ⟨h1, h2, h3, h4, h5, h6⟩, h7, h8, h9, h10⟩ := h
  exact ⟨a, n, c, ⟨by rw [put6_cell (by omega)]; exact h1, by rw [put6_cell (by omega)]; exact h2, by rw [put6_cell (by omega)]; exact h3, by rw [put6_cell (by omega)]; exact h4, by rw [put6_cell (by omega)]; exact h5, by rw [put6_cell (by omega)]; exact h6⟩, h7.put6 h10, h8, h9, h10⟩
theorem toPacketS_own (a : Option Addr) (c n : Nat) (L : List Pkt) (w : World) (hn : n < 2^40) (r : KP w a n L) (hL : ∀ x ∈ L, x.data.length ≤ 1048576) :
    Calls Try.prog 33 #[.slice a n c] w fun e w' => e = .returned (.slice (some ⟨w.heap.size, 0, none⟩) n n) ∧ KP w' (some ⟨w.heap.size, 0, none⟩) n L ∧ RSo 5 27 w' w.heap.size w'.heap.size n ∧ Ext w w' := by
  obtain ⟨i0, hi, hz0, hz1, hz2⟩ := info_parts info_Packet
  go_enter Try.func33, Try.ntmps33
  go_wp2_with (at_make; refine wpList_make_full _ rfl _ _ 45 rfl w.heap.size 27 i0 (.agg #[.int .i64 0, .int .i64 0, .int .i64 0, .int .i64 0, .bool false, .slice none 0 0]) 6 Try.underlying45 hi hz0 hz1 .i64 .i64 _ _ n rfl rfl rfl rfl (by rw [hz2]; omega) (by unfold maxLen; omega) (Nat.le_refl _) ?_; intro w1 hown hgrow)
  have E1 : Ext w w1 := (Ext.grown (Below.refl _ _) hgrow (by simp))
  have hs1 : w.heap.size < w1.heap.size := (hown.lt w.heap.size rfl).2
  go_loopw [4] (fun i wr => ∃ (k : Nat) (cs : List Value), k ≤ n ∧ i = .int .i64 k ∧ Ext w wr ∧ w.heap.size < wr.heap.size ∧ wr.ownsRow w.heap.size 27 6 (.slice (some ⟨w.heap.size, 0, none⟩) n n) n cs ∧ (∀ j, j < k → PktAt (w.heap.size + 1) wr w.heap.size (j * 6) (kget L j)) ∧ Hid (∃ bs, RSk 5 wr w.heap.size k wr.heap.size bs)) (fun i _ => n - (intOf i).toNat)
  case atStart => exact ⟨0, _, by omega, rfl, E1, hs1, hown, fun j hj => by omega, Lib.hid (RSk.zero 5 w1 (by omega))⟩
  case round =>
    obtain ⟨k, cs, hk, rfl, E2, hs2, own2, hall, HR⟩ := hrel
    clear hown E1 hgrow hs1
    have Hall := Lib.hid hall
    clear hall
    by_cases hlt : k < n
    · obtain ⟨b1, o1, rfl, g1⟩ := (r.ext E2).2 k hlt
      have hdl : (kget L k).data.length ≤ 1048576 := by
        rw [kget_eq L k (by rw [r.1]; exact hlt)]
        exact hL _ (List.getElem_mem _)
      obtain ⟨P, hP⟩ : ∃ P, P = kget L k := ⟨_, rfl⟩
      rw [← hP] at g1 hdl
      have HP := Lib.hid hP
      clear hP
      obtain ⟨num, fr, row, part, last, ds⟩ := P
      obtain ⟨a2, n2, c2, ⟨h1, h2, h3, h4, h5, h6⟩, h7, h8, h9, -⟩ := g1
      simp only at h1 h2 h3 h4 h5 h7 hdl
      have hn3 : n2 = ds.length := h7.int_len.symm
      have hn2 : n2 ≤ 1048576 := by omega
      have Hn3 := Lib.hid hn3
      clear hn3 hdl
      go_wp2_with fail
      refine (toPacket_any num fr row part last a2 n2 c2 ds wr (by omega) h7).mono ?_
      rintro e w2 ⟨a3, c3, rfl, own3, e3⟩
      have own4 := owns_ext own2 e3
      obtain ⟨u0, d0, -⟩ := owns_at own4 (j := k * 6) (by omega)
      obtain ⟨u1, d1, -⟩ := owns_at own4 (j := k * 6 + 1) (by omega)
      obtain ⟨u2, d2, -⟩ := owns_at own4 (j := k * 6 + 2) (by omega)
      obtain ⟨u3, d3, -⟩ := owns_at own4 (j := k * 6 + 3) (by omega)
      obtain ⟨u4, d4, -⟩ := owns_at own4 (j := k * 6 + 4) (by omega)
      obtain ⟨u5, d5, -⟩ := owns_at own4 (j := k * 6 + 5) (by omega)
      have f0 := own4.frozenAt (k * 6)
      have f1 := own4.frozenAt (k * 6 + 1)
      have f2 := own4.frozenAt (k * 6 + 2)
      have f3 := own4.frozenAt (k * 6 + 3)
      have f4 := own4.frozenAt (k * 6 + 4)
      have f5 := own4.frozenAt (k * 6 + 5)
      have hs3 : w.heap.size < w2.heap.size := Nat.lt_of_lt_of_le hs2 e3.size
      have E3 := E2.trans e3
      have All2 := Lib.hid (fun j hj => (Hall.out j hj).ext e3)
      have s3 := Sl.of_owns own3
      have hge := owns_ge own3
      have HR2 : Hid (∃ bs, RSk 5 (put6 w2 w.heap.size (k * 6) (.int .i64 num) (.int .i64 fr) (.int .i64 row) (.int .i64 part) (.bool last) (.slice a3 n2 c3)) w.heap.size (k + 1) (put6 w2 w.heap.size (k * 6) (.int .i64 num) (.int .i64 fr) (.int .i64 row) (.int .i64 part) (.bool last) (.slice a3 n2 c3)).heap.size bs) :=
        Lib.hid (RSk.snoc HR.out e3 own3 hn2 (put6_grown _ _ _ _ _ _ _ _ _) hs2 (fun q hq => put6_cell (by omega)) (put6_at own4 (by omega)).2.2.2.2.2)
      have hw2 : w.heap.size ≤ wr.heap.size := Nat.le_of_lt hs2
      have Hge := Lib.hid hge
      have S3 := Lib.hid s3
      have C3 := Lib.hid (owns_cap own3)
      clear e3 own2 E2 Hall h1 h2 h3 h4 h5 h6 h7 h8 h9 HR own3 hge s3
      go_wp2
      go_roundw
      case rel =>
        have o3 := put6_own (o := k * 6) (u0 := .int .i64 num) (u1 := .int .i64 fr) (u2 := .int .i64 row) (u3 := .int .i64 part) (u4 := .bool last) (u5 := .slice a3 n2 c3) own4
        refine ⟨k + 1, _, by omega, rfl, Ext.grown E3 (put6_grown _ _ _ _ _ _ _ _ _) (by simp), by simpa using hs3, o3, fun j hj => ?_, HR2⟩
        by_cases hjk : j = k
        · subst hjk
          rw [← HP.out]
          obtain ⟨k0, k1, k2, k3, k4, k5⟩ := put6_at (o := j * 6) (u0 := .int .i64 num) (u1 := .int .i64 fr) (u2 := .int .i64 row) (u3 := .int .i64 part) (u4 := .bool last) (u5 := .slice a3 n2 c3) own4 (by omega)
          have hgo : ∀ y, a3 = some y → w.heap.size + 1 ≤ y.block := fun y hy => by
            have := Hge.out y.block (by rw [hy]; rfl)
            omega
          exact ⟨a3, n2, c3, ⟨k0, k1, k2, k3, k4, k5⟩, S3.out.put6 hgo, C3.out.1, C3.out.2, hgo⟩
        · exact PktAt.put_other (All2.out j (by omega)) (by omega)
      case measure => simp [intOf]; omega
    · obtain rfl : k = n := by omega
      go_wp2
      go_ret
      refine ⟨rfl, ⟨r.1, fun i hi => ⟨w.heap.size, 0, rfl, ?_⟩⟩, ⟨⟨cs, own2⟩, HR.out⟩, E2⟩
      rw [Nat.zero_add]
      exact (Hall.out i hi).mono (Nat.zero_le _)
end Go.Proofs.Ytpjjadmjdafkeaa
