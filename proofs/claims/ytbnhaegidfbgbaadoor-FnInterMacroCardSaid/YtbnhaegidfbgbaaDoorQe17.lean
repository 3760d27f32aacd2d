/- The intra macroblock: plain law, and the memory of both walks. | The intra macroblock: the program's. | Plain: a rebuilt picture inside and outside the macroblock; fine intra coding is lossless. | Plain: fine inter coding is lossless. | Plain: what the laws of macroblocks say of the coder. | MotionBlock on valid arguments; the laws' comparisons. | The intra macroblock: the reference's; both sides for all arguments. | Equality of structs of integers: macroblocks compared. | Words of the laws of macroblocks. | FnInterMacro: fine coding is lossless; the walk of the law. | From the reading of an argument to the walks' words. -/
import Derived.Test.YtbnhaegidfbgbaaDoorQe16
import Derived.ProofKit
import Derived.OpenShut
import Derived.ShutString
import Derived.ChangeOld
import Derived.Deep.Slices
import Derived.Lib.SmallJoins
namespace Go.Proofs.YtbnhaegidfbgbaaDoor
open Go.RowKit
set_option maxHeartbeats 1000000
section
variable (t p : Pic) (x y q : Nat) (top : Int)
def inE (Z : List Int) (k : Nat) : Ed := edg ⟨p.w, p.h, Z⟩ ((x + k % 2 * 4 : Nat) : Int) ((y + k / 2 * 4 : Nat) : Int) top
def inU (k : Nat) : List Int := prt t ((x + k % 2 * 4 : Nat) : Int) ((y + k / 2 * 4 : Nat) : Int)
def inM (Z : List Int) (k : Nat) : Nat := bst (inU t x y k) (inE p x y top Z k)
def inP (Z : List Int) (k : Nat) : List Int := prd (inM t p x y top Z k) (inE p x y top Z k)
def inL (Z : List Int) (k : Nat) : List Int := cod (dif (inU t x y k) (inP t p x y top Z k)) q
/-- Of the first k blocks: the picture, the modes, the levels. -/
def inS : Nat → List Int × List Int × List Int
  | 0 => (p.px, zero4, zl 64)
  | k + 1 => (putS (inS k).1 p.w.toNat (x + k % 2 * 4) (y + k / 2 * 4) (inP t p x y top (inS k).1 k) (dec (inL t p x y q top (inS k).1 k) q) 16,
      (inS k).2.1.set k (inM t p x y top (inS k).1 k : Nat), spl (inS k).2.2 (k * 16) (inL t p x y q top (inS k).1 k))
def inMac (k : Nat) : Mac := ⟨2, 0, 0, (inS t p x y q top k).2.1, (inS t p x y q top k).2.2⟩
end
def okN (t p : Pic) (x y q top : Int) : Prop := alikeP t p ∧ placeP t x y ∧ (0 ≤ q ∧ q ≤ 15) ∧ (0 ≤ top ∧ top ≤ y)
noncomputable instance (t p : Pic) (x y q top : Int) : Decidable (okN t p x y q top) := Classical.propDecidable _
noncomputable def intraP (t p : Pic) (x y q top : Int) : Mac := if okN t p x y q top then inMac t p x.toNat y.toNat q.toNat top 4 else mac0
/-- What both walks keep: the copy (a row and its structure), the macroblock, the two zero places. -/
structure NS (w : World) (g n c : Nat) (tw th : Int) (a : Option Addr) (nt ct W H B O M : Nat) (Z ms : List Int) (wx : World) : Prop where
  ex : Ext w wx
  own : wx.ownsRow w.heap.size 3 1 (.slice (some ⟨g, 0, none⟩) n c) n (Z.map (Value.int .i64))
  bt : wx.heap[B]? = some (.cells #[.int .i64 tw, .int .i64 th, .slice a nt ct] 25 (0, 0))
  br : wx.heap[O]? = some (.cells #[.int .i64 W, .int .i64 H, .slice (some ⟨g, 0, none⟩) n c] 25 (0, 0))
  bz : IB wx (B + 1 + 1) 34 (zl 71)
  bm : IB wx M 34 ms
  h1 : w.heap.size ≤ B ∧ w.heap.size ≤ g ∧ w.heap.size ≤ O ∧ w.heap.size ≤ M
  h2 : B ≠ g ∧ O ≠ g ∧ B + 1 + 1 ≠ g ∧ M ≠ g ∧ M ≠ B ∧ M ≠ O ∧ M ≠ B + 1 + 1
section
variable {w wx wy : World} {g n c nt ct W H B O M : Nat} {tw th : Int} {a : Option Addr} {Z Z' ms ms' : List Int}
theorem NS.e (h : NS w g n c tw th a nt ct W H B O M Z ms wx) (e : Ext wx wy) : NS w g n c tw th a nt ct W H B O M Z ms wy :=
  ⟨h.ex.trans e, owns_ext h.own e, e.blk h.bt, e.blk h.br, h.bz.ext e, h.bm.ext e, h.h1, h.h2⟩
theorem NS.lt (h : NS w g n c tw th a nt ct W H B O M Z ms wx) : B < wx.heap.size ∧ g < wx.heap.size ∧ O < wx.heap.size ∧ M < wx.heap.size ∧ B + 1 + 1 < wx.heap.size :=
  ⟨lt_of_block h.bt, (h.own.lt g rfl).2, lt_of_block h.br, h.bm.lt, h.bz.lt⟩
theorem NS.put (h : NS w g n c tw th a nt ct W H B O M Z ms wx) (gr : wx.grownBy wy (some g)) (own : wy.ownsRow w.heap.size 3 1 (.slice (some ⟨g, 0, none⟩) n c) n (Z'.map (Value.int .i64))) : NS w g n c tw th a nt ct W H B O M Z' ms wy := by
  have a1 := h.h1
  have a2 := h.h2
  exact ⟨Ext.grown h.ex gr (fun k hk => by cases hk; omega), own, blk_gr h.bt gr (by simp; omega), blk_gr h.br gr (by simp; omega), h.bz.gr gr (by simp; omega), h.bm.gr gr (by simp; omega), a1, a2⟩
theorem NS.loc {b K : Nat} (h : NS w g n c tw th a nt ct W H B O M Z ms wx) (gr : wx.grownBy wy (some b)) (hb : K ≤ b) (hK : w.heap.size ≤ K ∧ B < K ∧ g < K ∧ O < K ∧ M < K ∧ B + 1 + 1 < K) : NS w g n c tw th a nt ct W H B O M Z ms wy := by
  have a1 := h.h1
  exact ⟨Ext.grown h.ex gr (fun k hk => by cases hk; omega), h.own.kept gr (.inr (by simp [Value.ownBlock]; omega)), blk_gr h.bt gr (by simp; omega), blk_gr h.br gr (by simp; omega), h.bz.gr gr (by simp; omega), h.bm.gr gr (by simp; omega), a1, h.h2⟩
/-- A place for a block of integers, or for the samples around a block, that came to be behind K. -/
def IA (w : World) (K : Nat) (v : Value) : Prop := ∃ (b : Nat) (us : List Int), v = .pointer (some ⟨b, 0, none⟩) ∧ K ≤ b ∧ IB w b 31 us ∧ us.length = 16
def EA (w : World) (K : Nat) (v : Value) : Prop := ∃ (b : Nat) (u : Ed), v = .pointer (some ⟨b, 0, none⟩) ∧ K ≤ b ∧ EB w b u ∧ u.ln
def IS (w : World) (K : Nat) (v : Value) (U : List Int) : Prop := ∃ b : Nat, v = .pointer (some ⟨b, 0, none⟩) ∧ K ≤ b ∧ IB w b 31 U
def ES (w : World) (K : Nat) (v : Value) (E : Ed) : Prop := ∃ b : Nat, v = .pointer (some ⟨b, 0, none⟩) ∧ K ≤ b ∧ EB w b E
/-- One block of integers, or one of samples around a block, was written. -/
def StI (wx wy : World) : Prop := ∃ (b : Nat) (us vs : List Int), wx.grownBy wy (some b) ∧ IB wx b 31 us ∧ IB wy b 31 vs ∧ vs.length = 16
def StE (wx wy : World) : Prop := ∃ (b : Nat) (u v : Ed), wx.grownBy wy (some b) ∧ EB wx b u ∧ EB wy b v ∧ v.ln
variable {K : Nat} {v : Value} {U : List Int} {E : Ed}
theorem IA.ext (h : IA wx K v) (e : Ext wx wy) : IA wy K v := by obtain ⟨b, us, h1, h2, h3, h4⟩ := h; exact ⟨b, us, h1, h2, h3.ext e, h4⟩
theorem EA.ext (h : EA wx K v) (e : Ext wx wy) : EA wy K v := by obtain ⟨b, us, h1, h2, h3, h4⟩ := h; exact ⟨b, us, h1, h2, h3.ext e, h4⟩
theorem IS.ext (h : IS wx K v U) (e : Ext wx wy) : IS wy K v U := by obtain ⟨b, h1, h2, h3⟩ := h; exact ⟨b, h1, h2, h3.ext e⟩
theorem ES.ext (h : ES wx K v E) (e : Ext wx wy) : ES wy K v E := by obtain ⟨b, h1, h2, h3⟩ := h; exact ⟨b, h1, h2, h3.ext e⟩
end
end Go.Proofs.YtbnhaegidfbgbaaDoor
namespace Go.Proofs.YtbnhaegidfbgbaaDoor
open Go.RowKit
set_option maxHeartbeats 1000000
theorem sub_spl {zs ys : List Int} {i n : Nat} (h : i + ys.length ≤ zs.length) (hn : ys.length = n) : sub (spl zs i ys) i n = ys := by
  subst hn
  unfold sub spl
  rw [List.append_assoc, List.drop_append_of_le_length (by simp; omega), List.drop_of_length_le (by simp; omega), List.nil_append, List.take_left]
end Go.Proofs.YtbnhaegidfbgbaaDoor
namespace Go.Proofs.YtbnhaegidfbgbaaDoor
open Go.RowKit
set_option maxHeartbeats 1000000
theorem putS_ne {px pr rs : List Int} {W x y i : Nat} : ∀ k : Nat, (∀ j, j < k → (y + j / 4) * W + x + j % 4 ≠ i) → nth (putS px W x y pr rs k) i = nth px i
  | 0, _ => rfl
  | k + 1, h => by
    show nth ((putS px W x y pr rs k).set _ _) i = _
    rw [nth_set_ne _ _ _ _ (h k (by omega)), putS_ne k (fun j hj => h j (by omega))]
theorem pos_inj {W x y j k : Nat} (hW : x + 4 ≤ W) (h : (y + j / 4) * W + x + j % 4 = (y + k / 4) * W + x + k % 4) : j = k := by
  rcases Nat.lt_trichotomy (j / 4) (k / 4) with h1 | h1 | h1
  · have h2 := Nat.mul_le_mul_right W (show y + j / 4 + 1 ≤ y + k / 4 by omega)
    rw [Nat.succ_mul] at h2
    omega
  · rw [h1] at h
    omega
  · have h2 := Nat.mul_le_mul_right W (show y + k / 4 + 1 ≤ y + j / 4 by omega)
    rw [Nat.succ_mul] at h2
    omega
theorem putS_at {px pr rs : List Int} {W x y j : Nat} (hW : x + 4 ≤ W) (hn : (y + 3) * W + x + 3 < px.length) : ∀ k : Nat, j < k → k ≤ 16 → nth (putS px W x y pr rs k) ((y + j / 4) * W + x + j % 4) = clipI (nth pr j + nth rs j) 0 255
  | 0, h, _ => by omega
  | k + 1, h, h16 => by
    show nth ((putS px W x y pr rs k).set _ _) _ = _
    by_cases e : j = k
    · subst e
      have h2 := Nat.mul_le_mul_right W (show y + j / 4 ≤ y + 3 by omega)
      rw [nth_set_same _ _ _ (by rw [putS_len]; omega)]
    · rw [nth_set_ne _ _ _ _ (fun hh => e (pos_inj hW hh).symm), putS_at hW hn k (by omega) (by omega)]
theorem pos_div {W r c : Nat} (h : c < W) : (r * W + c) / W = r ∧ (r * W + c) % W = c := by
  have h0 : 0 < W := by omega
  refine ⟨?_, ?_⟩
  · rw [Nat.add_comm, Nat.add_mul_div_right _ _ h0, Nat.div_eq_of_lt h, Nat.zero_add]
  · rw [Nat.add_comm, Nat.add_mul_mod_self_right, Nat.mod_eq_of_lt h]
theorem nth_subZ (zs : List Int) (i n t : Nat) (h : t < n) : nth (sub zs i n) t = nth zs (i + t) := by
  simp [nth, sub, List.getD, List.getElem?_take, h]
theorem nth_splL (zs ys : List Int) {j t : Nat} (h : t < j) (hj : j ≤ zs.length) : nth (spl zs j ys) t = nth zs t := by
  simp only [nth, spl, List.getD]
  rw [List.append_assoc, List.getElem?_append_left (by simp; omega), List.getElem?_take, if_pos h]
theorem sub_spl_lt {zs ys : List Int} {i j n : Nat} (h : i + n ≤ j) (hj : j + ys.length ≤ zs.length) : sub (spl zs j ys) i n = sub zs i n := by
  have l1 : (sub (spl zs j ys) i n).length = n := by simp [sub, spl_len hj]; omega
  have l2 : (sub zs i n).length = n := by simp [sub]; omega
  refine ext_nth (by rw [l1, l2]) fun t ht => ?_
  rw [l1] at ht
  rw [nth_subZ _ _ _ _ ht, nth_subZ _ _ _ _ ht, nth_splL _ _ (by omega) (by omega)]
/-- Fine intra coding is lossless. -/
theorem blk_eq {t : Pic} {w h : Int} {Z : List Int} (x y : Nat) {W H : Nat} (hW : w = W) (hH : h = H) (hx : x + 8 ≤ W) (hy : y + 8 ≤ H)
    (hz : ∀ i, i < 64 → nth Z ((y + i / 8) * W + (x + i % 8)) = pat t ((x + i % 8 : Nat) : Int) ((y + i / 8 : Nat) : Int)) : blkL ⟨w, h, Z⟩ x y 0 0 = blkL t x y 0 0 := by
  refine ext_nth (by rw [blkL_len, blkL_len]) fun i hi => ?_
  rw [blkL_len] at hi
  rw [nth_blkL _ _ _ _ _ hi, nth_blkL _ _ _ _ _ hi, Int.add_zero, Int.add_zero, hlf_two, hlf_two, ← Int.natCast_add, ← Int.natCast_add]
  rw [pat_in (p := ⟨w, h, Z⟩) (x := x + i % 8) (y := y + i / 8) (W := W) (by show ((x + i % 8 : Nat) : Int) < w; rw [hW]; omega) (by show ((y + i / 8 : Nat) : Int) < h; rw [hH]; omega) hW]
  exact hz i hi
end Go.Proofs.YtbnhaegidfbgbaaDoor
namespace Go.Proofs.YtbnhaegidfbgbaaDoor
open Go.RowKit
set_option maxHeartbeats 1000000
/-- A sample of a rebuilt block. -/
theorem bldS_at (ref : Pic) {p : Pic} (hp : p.valid) (x y : Nat) (m : Mac) (q : Nat) (top : Int) {W H k j : Nat} (hW : p.w = W) (hH : p.h = H) (hx : x + 8 ≤ W) (hy : y + 8 ≤ H) (hj : j < 16) :
    ∀ n : Nat, k < n → n ≤ 4 → nth (bldS ref p x y m q top n) ((y + k / 2 * 4 + j / 4) * W + (x + k % 2 * 4) + j % 4) =
      clipI (nth (prK ref p.w p.h (bldS ref p x y m q top k) x y m top k) j + nth (dec (sub m.lv (k * 16) 16) q) j) 0 255
  | 0, h, _ => by omega
  | n + 1, h, h4 => by
    have hl : (bldS ref p x y m q top n).length = W * H := by
      rw [bldS_len]
      have h1 := hp.2.2.1
      rw [hW, hH, ← Int.natCast_mul] at h1
      exact Int.ofNat.inj h1
    show nth (putS (bldS ref p x y m q top n) p.w.toNat (x + n % 2 * 4) (y + n / 2 * 4) (prK ref p.w p.h (bldS ref p x y m q top n) x y m top n) (dec (sub m.lv (n * 16) 16) q) 16) _ = _
    rw [show p.w.toNat = W by rw [hW, Int.toNat_natCast]]
    by_cases e : k = n
    · subst e
      have hb : (y + k / 2 * 4 + 3) * W + (x + k % 2 * 4) + 3 < (bldS ref p x y m q top k).length := by
        have h3 := Nat.mul_le_mul_right W (show y + k / 2 * 4 + 3 + 1 ≤ H by omega)
        rw [hl, Nat.mul_comm W H]
        rw [Nat.succ_mul] at h3
        omega
      exact putS_at (by omega) hb 16 hj (Nat.le_refl _)
    · rw [putS_ne 16 (fun i hi he => ?_), bldS_at ref hp x y m q top hW hH hx hy hj n (by omega) (by omega)]
      have a1 := pos_div (W := W) (r := y + n / 2 * 4 + i / 4) (c := x + n % 2 * 4 + i % 4) (by omega)
      have a2 := pos_div (W := W) (r := y + k / 2 * 4 + j / 4) (c := x + k % 2 * 4 + j % 4) (by omega)
      rw [Nat.add_assoc _ (x + _) _, Nat.add_assoc _ (x + _) _] at he
      rw [he] at a1
      omega
theorem intL_sub (t r : Pic) (x y : Nat) (vx vy : Int) (q : Nat) {k : Nat} : ∀ n : Nat, k < n → n ≤ 4 → sub (intL t r x y vx vy q n) (k * 16) 16 = cod (dif (prt t ((x + k % 2 * 4 : Nat) : Int) ((y + k / 2 * 4 : Nat) : Int)) (pof (blkL r x y vx vy) (k % 2 * 4) (k / 2 * 4))) q
  | 0, h, _ => by omega
  | n + 1, h, h4 => by
    have hl := intL_len t r x y vx vy q (k := n) (by omega)
    show sub (spl _ _ _) _ _ = _
    by_cases e : k = n
    · subst e
      exact sub_spl (by rw [hl, cod_len]; omega) (cod_len _ _)
    · rw [sub_spl_lt (by omega) (by rw [hl, cod_len]; omega), intL_sub t r x y vx vy q n (by omega) (by omega)]
theorem inter_px {t r p : Pic} (ht : t.valid) (hr : r.valid) (hp : p.valid) (x y : Nat) (vx vy top : Int) {W H k j : Nat} (hW : p.w = W) (hH : p.h = H) (hx : x + 8 ≤ W) (hy : y + 8 ≤ H) (hj : j < 16) (hk : k < 4) :
    nth (bldS r p x y (macI vx vy (intL t r x y vx vy 0 4)) 0 top 4) ((y + k / 2 * 4 + j / 4) * W + (x + k % 2 * 4) + j % 4) = nth (prt t ((x + k % 2 * 4 : Nat) : Int) ((y + k / 2 * 4 : Nat) : Int)) j := by
  rw [bldS_at r hp x y _ 0 top hW hH hx hy hj 4 hk (Nat.le_refl _)]
  have hU := prt_smp ht ((x + k % 2 * 4 : Nat) : Int) ((y + k / 2 * 4 : Nat) : Int)
  have hUl := prt_len t ((x + k % 2 * 4 : Nat) : Int) ((y + k / 2 * 4 : Nat) : Int)
  have hV := pof_smp (blkL_smp hr x y vx vy) (blkL_len r x y vx vy) (i := k % 2 * 4) (j := k / 2 * 4) (by omega) (by omega)
  have hVl := pof_len (blkL r x y vx vy) (k % 2 * 4) (k / 2 * 4)
  have h1 : ∀ Z : List Int, prK r p.w p.h Z x y (macI vx vy (intL t r x y vx vy 0 4)) top k = pof (blkL r x y vx vy) (k % 2 * 4) (k / 2 * 4) := fun Z => by
    unfold prK
    rw [if_neg (show ¬ (macI vx vy (intL t r x y vx vy 0 4)).kind = 2 from by show ¬ ((1 : Int) = 2); decide)]
    rfl
  have h2 : sub (macI vx vy (intL t r x y vx vy 0 4)).lv (k * 16) 16 = cod (dif (prt t ((x + k % 2 * 4 : Nat) : Int) ((y + k / 2 * 4 : Nat) : Int)) (pof (blkL r x y vx vy) (k % 2 * 4) (k / 2 * 4))) 0 := intL_sub t r x y vx vy 0 4 hk (Nat.le_refl _)
  rw [h1, h2]
  generalize prt t ((x + k % 2 * 4 : Nat) : Int) ((y + k / 2 * 4 : Nat) : Int) = U at *
  generalize pof (blkL r x y vx vy) (k % 2 * 4) (k / 2 * 4) = V at *
  rw [dec_cod (dif_len _ _) (dif_rng hU hV hUl hVl), nth_dif _ _ hj]
  have h3 := smp_nth hU (i := j) (by omega)
  rw [show nth V j + (nth U j - nth V j) = nth U j by omega]
  exact clipI_in h3.1 h3.2
/-- Fine inter coding is lossless. -/
theorem inter_fine {t r p : Pic} (ht : t.valid) (hr : r.valid) (hp : p.valid) (x y : Nat) (vx vy top : Int) {W H : Nat} (hW : p.w = W) (hH : p.h = H) (hx : x + 8 ≤ W) (hy : y + 8 ≤ H) :
    blkL ⟨p.w, p.h, bldS r p x y (macI vx vy (intL t r x y vx vy 0 4)) 0 top 4⟩ x y 0 0 = blkL t x y 0 0 := by
  have hz : ∀ i, i < 64 → nth (bldS r p x y (macI vx vy (intL t r x y vx vy 0 4)) 0 top 4) ((y + i / 8) * W + (x + i % 8)) = pat t ((x + i % 8 : Nat) : Int) ((y + i / 8 : Nat) : Int) := fun i hi => by
    obtain ⟨k, hk⟩ : ∃ k, k = i / 8 / 4 * 2 + i % 8 / 4 := ⟨_, rfl⟩
    obtain ⟨j, hj⟩ : ∃ j, j = i / 8 % 4 * 4 + i % 8 % 4 := ⟨_, rfl⟩
    have e1 : y + i / 8 = y + k / 2 * 4 + j / 4 := by omega
    have e2 : x + i % 8 = x + k % 2 * 4 + j % 4 := by omega
    have h := inter_px ht hr hp x y vx vy top hW hH hx hy (k := k) (j := j) (by omega) (by omega)
    rw [e1, e2, ← Nat.add_assoc, h]
    rw [nth_prt _ _ _ (by omega), ← Int.natCast_add, ← Int.natCast_add]
  generalize bldS r p x y (macI vx vy (intL t r x y vx vy 0 4)) 0 top 4 = Z at *
  exact blk_eq x y hW hH hx hy hz
end Go.Proofs.YtbnhaegidfbgbaaDoor
namespace Go.Proofs.YtbnhaegidfbgbaaDoor
open Go.RowKit
set_option maxHeartbeats 1000000
theorem side_fit {W x : Nat} {w : Int} (hw : side w) (hW : w = W) (hx : (x : Int) < w) (hx8 : (x : Int) % 8 = 0) : x + 8 ≤ W := by
  have := hw.2.2
  omega
theorem macI_valid {t r : Pic} (ht : t.valid) (hr : r.valid) (x y : Nat) {vx vy : Int} (hv : vv vx vy) {q : Nat} (hq : q < 16) : (macI vx vy (intL t r x y vx vy q 4)).valid := by
  refine ⟨⟨by show (0 : Int) ≤ 1; decide, by show (1 : Int) ≤ 2; decide⟩, hv, fun h => absurd rfl h, fun _ => rfl, fun h => absurd (show (1 : Int) = 2 from h) (by decide), fun h => absurd (show (1 : Int) = 0 from h) (by decide), ?_⟩
  refine (inB_blocks (zs := intL t r x y vx vy q 4) (intL_len _ _ _ _ _ _ _ (Nat.le_refl _))).2 ?_
  intro k hk
  show inB 4080 (sub (intL t r x y vx vy q 4) (k * 16) 16) = true
  rw [intL_sub t r x y vx vy q 4 hk (Nat.le_refl _)]
  have hB := blkL_smp hr x y vx vy
  exact cod_rng (dif_len _ _) (dif_rng (prt_smp ht _ _) (pof_smp hB (blkL_len _ _ _ _ _) (by omega) (by omega)) (prt_len _ _ _) (pof_len _ _ _)) hq
/-- What FnInterMacro says of the coder. -/
theorem inter_plain {t r : Pic} {X Y : Nat} {vx vy q : Int} (h : okI t r X Y vx vy q) : (interP t r X Y vx vy q).valid ∧ (interP t r X Y vx vy q).kind = 1 ∧ (interP t r X Y vx vy q).x = vx ∧ (interP t r X Y vx vy q).y = vy ∧ ∃ O : Pic, recP r r X Y (interP t r X Y vx vy 0) 0 0 = O ∧ O.valid ∧ O.w = r.w ∧ O.h = r.h ∧ blkL O X Y 0 0 = blkL t X Y 0 0 := by
  have h0 : okI t r X Y vx vy 0 := ⟨h.1, h.2.1, h.2.2.1, by decide⟩
  have e := interP_yes h
  obtain ⟨⟨ht, hr, hw, hh⟩, ⟨-, hx0, hx1, hx2, hy0, hy1, hy2⟩, hv, hq0, hq1⟩ := h
  rw [interP_yes h0, e]
  simp only [Int.toNat_natCast]
  have hq16 : q.toNat < 16 := by omega
  refine ⟨macI_valid ht hr X Y hv hq16, by first | rfl | trivial, by first | rfl | trivial, by first | rfl | trivial, ?_⟩
  obtain ⟨W, hW⟩ : ∃ W : Nat, r.w = W := ⟨r.w.toNat, by have := hr.1.1; omega⟩
  obtain ⟨H, hH⟩ : ∃ H : Nat, r.h = H := ⟨r.h.toNat, by have := hr.2.1.1; omega⟩
  have hok : okR r r X Y (macI vx vy (intL t r X Y vx vy (0 : Int).toNat 4)) 0 0 := ⟨⟨hr, hx0, by omega, hx2, hy0, by omega, hy2⟩, macI_valid ht hr X Y hv (by decide), by decide, by omega, .inr ⟨hr, hr, rfl, rfl⟩⟩
  refine ⟨_, recP_yes hok, bldS_valid hr _ _ _ _ _ _ _, rfl, rfl, ?_⟩
  simp only [Int.toNat_natCast]
  exact inter_fine ht hr hr X Y vx vy 0 hW hH (side_fit hr.1 hW (by omega) hx2) (side_fit hr.2.1 hH (by omega) hy2)
end Go.Proofs.YtbnhaegidfbgbaaDoor
namespace Go.Proofs.YtbnhaegidfbgbaaDoor
open Go.RowKit
set_option maxHeartbeats 1000000
set_option maxRecDepth 100000 in
theorem MotionBlock_yes (p : Pic) (x y : Nat) (vx vy : Int) (a : Option Addr) (c n : Nat) (w : World) (hv : p.valid) (hn : n = p.px.length) (s : Sl w a n (p.px.map (Value.int .i64))) (hvv : vv vx vy) (hb : (0 ≤ (x : Int)) ∧ ((x : Int) < p.w) ∧ ((x : Int) % 8 = 0) ∧ (0 ≤ (y : Int)) ∧ ((y : Int) < p.h) ∧ ((y : Int) % 8 = 0)) :
    Calls Tryd.prog 16 #[.agg #[.int .i64 p.w, .int .i64 p.h, .slice a n c], .int .i64 (x : Nat), .int .i64 (y : Nat), .agg #[.int .i64 vx, .int .i64 vy]] w fun e w' => ∃ a' c', e = .returned (.slice a' 64 c') ∧ w'.ownsRow w.heap.size 3 1 (.slice a' 64 c') 64 ((blkL p x y vx vy).map (Value.int .i64)) ∧ Ext w w' := by
  have HN := Lib.hid hn
  have hl := Pic.len_le hv
  rw [← hn] at hl
  have hx100 : x ≤ 24 := by have h1 := hv.1.2.1; have h2 := hb.2.1; have h3 := hb.2.2.1; omega
  have hy100 : y ≤ 24 := by have h1 := hv.2.1.2.1; have h2 := hb.2.2.2.2.1; have h3 := hb.2.2.2.2.2; omega
  have HV := Lib.hid hv
  have HVV := Lib.hid hvv
  have D0 := Lib.hid (show decide p.valid = true from decide_eq_true hv)
  have D2 := Lib.hid (show decide ((0 ≤ (x : Int)) ∧ ((x : Int) < p.w) ∧ ((x : Int) % 8 = 0) ∧ (0 ≤ (y : Int)) ∧ ((y : Int) < p.h) ∧ ((y : Int) % 8 = 0)) = true from decide_eq_true hb)
  clear hn hb hv hvv
  have a0_1 := Ext.alloc (w.alloc (.cells #[.int .i64 p.w, .int .i64 p.h, .slice a n c] 25)) (.cells #[.int .i64 vx, .int .i64 vy] 27)
  have X0_0 := a0_1.blk (blk_new w (.cells #[.int .i64 p.w, .int .i64 p.h, .slice a n c] 25))
  have X1_0 := blk_new (w.alloc (.cells #[.int .i64 p.w, .int .i64 p.h, .slice a n c] 25)) (.cells #[.int .i64 vx, .int .i64 vy] 27)
  have E_0 := (Ext.alloc w (.cells #[.int .i64 p.w, .int .i64 p.h, .slice a n c] 25)).trans (Ext.alloc (w.alloc (.cells #[.int .i64 p.w, .int .i64 p.h, .slice a n c] 25)) (.cells #[.int .i64 vx, .int .i64 vy] 27))
  simp only [World.size_alloc] at X1_0
  clear a0_1
  obtain ⟨-, k0_0, k0_1, k0_2, -⟩ := bx3 X0_0
  obtain ⟨-, k1_0, k1_1, -⟩ := bx2 X1_0
  go_enter Tryd.func16, Tryd.ntmps16
  go_wp2_with fail
  refine (impl_PictureValid_any p a c n _ HN.out (by omega) (s.ext E_0)).mono ?_
  rw [D0.out]
  rintro e w_1 ⟨rfl, e_1⟩
  have X0_1 := e_1.blk X0_0
  have X1_1 := e_1.blk X1_0
  have E_1 := E_0.trans e_1
  clear k0_0 k0_1 k0_2 X0_0 k1_0 k1_1 X1_0 E_0
  clear e_1
  obtain ⟨-, k0_0, k0_1, k0_2, -⟩ := bx3 X0_1
  obtain ⟨-, k1_0, k1_1, -⟩ := bx2 X1_1
  go_wp2_with fail
  refine (impl_VectorValid_yes vx vy _ HVV.out).mono ?_
  rintro e w_2 ⟨rfl, e_2⟩
  have X0_2 := e_2.blk X0_1
  have X1_2 := e_2.blk X1_1
  have E_2 := E_1.trans e_2
  clear k0_0 k0_1 k0_2 X0_1 k1_0 k1_1 X1_1 E_1
  clear e_2
  obtain ⟨-, k0_0, k0_1, k0_2, -⟩ := bx3 X0_2
  obtain ⟨-, k1_0, k1_1, -⟩ := bx2 X1_2
  go_wp2_with fail
  refine (begins_any p x y a c n _).mono ?_
  rw [D2.out]
  rintro e w_3 ⟨rfl, e_3⟩
  have X0_3 := e_3.blk X0_2
  have X1_3 := e_3.blk X1_2
  have E_3 := E_2.trans e_3
  clear k0_0 k0_1 k0_2 X0_2 k1_0 k1_1 X1_2 E_2
  clear e_3
  obtain ⟨-, k0_0, k0_1, k0_2, -⟩ := bx3 X0_3
  obtain ⟨-, k1_0, k1_1, -⟩ := bx2 X1_3
  go_wp2_with fail
  have hvv := HVV.out
  refine (moved_any p x y vx vy a c n _ HV.out HN.out (s.ext E_3) (by omega) (by omega) (by omega) (by omega) hvv.1 hvv.2.1 hvv.2.2.1 hvv.2.2.2).mono ?_
  rintro e w6 ⟨a6, c6, rfl, o6, e6⟩
  have E6 := E_3.trans e6
  have o7 := owns_mono o6 E_3.size
  clear E_3 e6 o6 hvv
  go_wp2
  go_ret
  exact ⟨a6, c6, rfl, o7, E6⟩
set_option maxRecDepth 100000 in
theorem sameInts_same (a b : Option Addr) (c d n : Nat) (zs : List Int) (w : World) (hn : n < 2^40) (r : Sl w a n (zs.map (Value.int .i64))) (s : Sl w b n (zs.map (Value.int .i64))) :
    Calls Tryd.prog 15 #[.slice a n c, .slice b n d] w fun e w' => e = .returned (.bool true) ∧ Ext w w' := by
  have hnn : ((n : Int) != n) = false := by simp
  go_enter Tryd.func15, Tryd.ntmps15
  go_wp2
  go_loopw [5] (fun i wr => ∃ k : Nat, k ≤ n ∧ i = .int .i64 k ∧ Ext w wr) (fun i _ => n - (intOf i).toNat)
  case atStart => exact ⟨0, by omega, rfl, Below.refl _ _⟩
  case round =>
    obtain ⟨k, hk, rfl, E4⟩ := hrel
    by_cases hlt : k < n
    · have hd : decide ((k : Int) < n) = true := by simp; omega
      obtain ⟨b1, o1, rfl, g1⟩ := r.int hlt
      obtain ⟨b2, o2, rfl, g2⟩ := s.int hlt
      have Ha := Lib.hid (fun (wx : World) (h : Ext w wx) => (r.ext h).int hlt)
      have Hb := Lib.hid (fun (wx : World) (h : Ext w wx) => (s.ext h).int hlt)
      clear g1 g2
      obtain ⟨z, hz⟩ : ∃ z, z = nth zs k := ⟨_, rfl⟩
      rw [← hz] at Ha Hb
      have hzz : (z != z) = false := by simp
      clear hz
      go_wp2_with fail
      refine wp_region_inv2 (by kernel_rfl) [(17, 0), (18, 1), (19, 2), (20, 3), (21, 4), (22, 5), (23, 6), (24, 7), (25, 8)] [[], [], [0, 1], [0, 1, 2], [], [], [4, 5], [4, 5, 6], [0, 1, 2, 3, 4, 5, 6, 7]] (fun i own ys wx => match i with | 0 => own = .slice (some ⟨b1, o1, none⟩) n c | 1 => own = .int .i64 (k : Nat) | 2 => own = .pointer (some ⟨b1, o1 + k, none⟩) | 3 => own = .int .i64 z | 4 => own = .slice (some ⟨b2, o2, none⟩) n d | 5 => own = .int .i64 (k : Nat) | 6 => own = .pointer (some ⟨b2, o2 + k, none⟩) | 7 => own = .int .i64 z | 8 => own = .bool false | _ => True) (fun kx wx => Ext w wx) (by kernel_rfl) (by kernel_rfl) (by kernel_rfl) ?g0_r1 ?gop_r1 ?gend_r1
      case g0_r1 => exact E4.trans_drewN 1
      case gop_r1 =>
        refine ⟨?_, ?_, ?_, ?_, ?_, ?_, ?_, ?_, ?_, trivial⟩
        · intro kx xs wx hk hG hD hI Qo Kx hK hQo
          clear hD
          clear hI
          simp only [patchS, Nat.reduceAdd, Nat.reduceEqDiff, ↓reduceIte] at hQo ⊢
          go_wp2
          exact hK.out _ _ ⟨rfl, hG, fun _ _ _ _ _ _ h => h⟩
        · intro kx xs wx hk hG hD hI Qo Kx hK hQo
          clear hD
          clear hI
          simp only [patchS, Nat.reduceAdd, Nat.reduceEqDiff, ↓reduceIte] at hQo ⊢
          go_wp2
          exact hK.out _ _ ⟨rfl, hG, fun _ _ _ _ _ _ h => h⟩
        · intro kx xs wx hk hG hD hI Qo Kx hK hQo
          have d0 : (xs 0) = .slice (some ⟨b1, o1, none⟩) n c := hD 0 rfl
          have d1 : (xs 1) = .int .i64 (k : Nat) := hD 1 rfl
          clear hD
          clear hI
          simp only [patchS, Nat.reduceAdd, Nat.reduceEqDiff, ↓reduceIte] at hQo ⊢
          generalize xs 0 = y0 at *
          generalize xs 1 = y1 at *
          subst d0
          subst d1
          go_wp2
          exact hK.out _ _ ⟨rfl, hG, fun _ _ _ _ _ _ h => h⟩
        · intro kx xs wx hk hG hD hI Qo Kx hK hQo
          have d2 : (xs 2) = .pointer (some ⟨b1, o1 + k, none⟩) := hD 2 rfl
          clear hD
          clear hI
          simp only [patchS, Nat.reduceAdd, Nat.reduceEqDiff, ↓reduceIte] at hQo ⊢
          generalize xs 2 = y2 at *
          subst d2
          obtain ⟨q1, q2, he, cx⟩ := Ha.out wx hG
          simp only [Option.some.injEq, Addr.mk.injEq, and_true] at he
          obtain ⟨rfl, rfl⟩ := he
          go_wp2
          exact hK.out _ _ ⟨rfl, hG, fun _ _ _ _ _ _ h => h⟩
        · intro kx xs wx hk hG hD hI Qo Kx hK hQo
          clear hD
          clear hI
          simp only [patchS, Nat.reduceAdd, Nat.reduceEqDiff, ↓reduceIte] at hQo ⊢
          go_wp2
          exact hK.out _ _ ⟨rfl, hG, fun _ _ _ _ _ _ h => h⟩
        · intro kx xs wx hk hG hD hI Qo Kx hK hQo
          clear hD
          clear hI
          simp only [patchS, Nat.reduceAdd, Nat.reduceEqDiff, ↓reduceIte] at hQo ⊢
          go_wp2
          exact hK.out _ _ ⟨rfl, hG, fun _ _ _ _ _ _ h => h⟩
        · intro kx xs wx hk hG hD hI Qo Kx hK hQo
          have d4 : (xs 4) = .slice (some ⟨b2, o2, none⟩) n d := hD 4 rfl
          have d5 : (xs 5) = .int .i64 (k : Nat) := hD 5 rfl
          clear hD
          clear hI
          simp only [patchS, Nat.reduceAdd, Nat.reduceEqDiff, ↓reduceIte] at hQo ⊢
          generalize xs 4 = y4 at *
          generalize xs 5 = y5 at *
          subst d4
          subst d5
          go_wp2
          exact hK.out _ _ ⟨rfl, hG, fun _ _ _ _ _ _ h => h⟩
        · intro kx xs wx hk hG hD hI Qo Kx hK hQo
          have d6 : (xs 6) = .pointer (some ⟨b2, o2 + k, none⟩) := hD 6 rfl
          clear hD
          clear hI
          simp only [patchS, Nat.reduceAdd, Nat.reduceEqDiff, ↓reduceIte] at hQo ⊢
          generalize xs 6 = y6 at *
          subst d6
          obtain ⟨q1, q2, he, cx⟩ := Hb.out wx hG
          simp only [Option.some.injEq, Addr.mk.injEq, and_true] at he
          obtain ⟨rfl, rfl⟩ := he
          go_wp2
          exact hK.out _ _ ⟨rfl, hG, fun _ _ _ _ _ _ h => h⟩
        · intro kx xs wx hk hG hD hI Qo Kx hK hQo
          have d3 : (xs 3) = .int .i64 z := hD 3 rfl
          have d7 : (xs 7) = .int .i64 z := hD 7 rfl
          clear hD
          clear hI
          simp only [patchS, Nat.reduceAdd, Nat.reduceEqDiff, ↓reduceIte] at hQo ⊢
          generalize xs 3 = y3 at *
          generalize xs 7 = y7 at *
          subst d3
          subst d7
          go_wp2
          exact hK.out _ _ ⟨rfl, hG, fun _ _ _ _ _ _ h => h⟩
      intro xs wx hV hG
      have d0 : (xs 0) = .slice (some ⟨b1, o1, none⟩) n c := hV 0 (by decide)
      have d1 : (xs 1) = .int .i64 (k : Nat) := hV 1 (by decide)
      have d2 : (xs 2) = .pointer (some ⟨b1, o1 + k, none⟩) := hV 2 (by decide)
      have d3 : (xs 3) = .int .i64 z := hV 3 (by decide)
      have d4 : (xs 4) = .slice (some ⟨b2, o2, none⟩) n d := hV 4 (by decide)
      have d5 : (xs 5) = .int .i64 (k : Nat) := hV 5 (by decide)
      have d6 : (xs 6) = .pointer (some ⟨b2, o2 + k, none⟩) := hV 6 (by decide)
      have d7 : (xs 7) = .int .i64 z := hV 7 (by decide)
      have d8 : (xs 8) = .bool false := hV 8 (by decide)
      clear hV
      simp only [patchS, Nat.reduceAdd, Nat.reduceEqDiff, ↓reduceIte]
      generalize xs 0 = y0 at *
      generalize xs 1 = y1 at *
      generalize xs 2 = y2 at *
      generalize xs 3 = y3 at *
      generalize xs 4 = y4 at *
      generalize xs 5 = y5 at *
      generalize xs 6 = y6 at *
      generalize xs 7 = y7 at *
      generalize xs 8 = y8 at *
      replace hG : Ext w wx := hG
      clear d0 d1 d2 d3 d4 d5 d6 d7
      subst d8
      clear Ha Hb
      go_wp2
      go_roundw
      case rel => exact ⟨k + 1, by omega, by go_num, hG⟩
      case measure => simp [intOf]; omega
    · obtain rfl : k = n := by omega
      go_wp2
      go_ret
      exact ⟨rfl, E4⟩
end Go.Proofs.YtbnhaegidfbgbaaDoor
namespace Go.Proofs.YtbnhaegidfbgbaaDoor
open Go.RowKit
set_option maxHeartbeats 1000000
end Go.Proofs.YtbnhaegidfbgbaaDoor
namespace Go.Proofs.YtbnhaegidfbgbaaDoor
open Go.RowKit
set_option maxHeartbeats 400000
section
variable {P : Program}
/-- Fields that follow one another from o to n, each compared as lists. -/
def EqF (P : Program) (d n : Nat) : List Field → Nat → Prop
  | [], o => o = n
  | f :: fs, o => f.name ≠ "_" ∧ f.offset = o ∧ ∃ c, EqE P f.type c d ∧ o + c ≤ n ∧ EqF P d n fs (o + c)
theorem sub_split (zs : List Int) (o c m : Nat) : sub zs o (c + m) = sub zs o c ++ sub zs (o + c) m := by
  unfold sub
  rw [List.take_add, List.drop_drop]
theorem EqF.run {d n : Nat} (w : World) (xs ys : List Int) (hx : n ≤ xs.length) (hy : n ≤ ys.length) : ∀ (fs : List Field) (o : Nat), EqF P d n fs o →
    (Op.eqFields d (ic xs) (ic ys) fs).run P w = .ok (decide (sub xs o (n - o) = sub ys o (n - o))) w
  | [], o, h => by
    have h' : o = n := h
    subst h'
    simp [Op.eqFields, sub]
  | f :: fs, o, h => by
    obtain ⟨h1, h2, c, hE, hc, h3⟩ := h
    obtain ⟨a, b, p1, p2, p3⟩ := hE w xs ys o (by omega) (by omega)
    have ih := EqF.run w xs ys hx hy fs (o + c) h3
    have e : n - o = c + (n - (o + c)) := by omega
    rw [e, sub_split, sub_split]
    simp only [Op.eqFields, ne_eq, h1, not_false_eq_true, if_true, Sem.run_bind, h2, p1, p2, p3, Result.andThen_ok, ih]
    by_cases hs : sub xs o c = sub ys o c
    · simp only [hs, decide_true, Bool.not_true, Bool.false_eq_true, if_false, ih]
      congr 1
      simp
    · simp only [hs, decide_false, Bool.not_false, if_true, Sem.run_pure]
      congr 1
      symm
      rw [decide_eq_false_iff_not]
      intro h
      exact hs (List.append_inj_left h (by rw [sub_len _ _ _ (by omega), sub_len _ _ _ (by omega)]))
theorem fieldsOf_eq {t : TypeId} {fs : Array Field} (ht : P.underlying t = some (.struct fs)) : P.fieldsOf t = fs := by simp [Program.fieldsOf, ht]
theorem EqE.struct {t : TypeId} {n d : Nat} {fs : Array Field} (ht : P.underlying t = some (.struct fs)) (hp : P.stoodInHeld t = false) (hti : (P.info? t).map (·.size) = some n) (hF : EqF P d n fs.toList 0) : EqE P t n (d + 1) := by
  have he := fieldsOf_eq ht
  subst he
  intro w xs ys off h1 h2
  have hag := isAgg_of (P := P) w ht rfl
  cases hqt : P.info? t with
  | none => simp [hqt] at hti
  | some jj =>
    have hst : jj.size = n := by simpa [hqt] using hti
    refine ⟨.agg (ic (sub xs off n)), .agg (ic (sub ys off n)), ?_, ?_, ?_⟩
    · simp [part, Sem.run_bind, hag, sizeOf, typeInfo, hqt, hst, ic_extract]
    · simp [part, Sem.run_bind, hag, sizeOf, typeInfo, hqt, hst, ic_extract]
    · rw [run_equalIn_struct w d t _ _ ht hp, EqF.run w _ _ (by rw [sub_len _ _ _ h1]; omega) (by rw [sub_len _ _ _ h2]; omega) _ 0 hF, Nat.sub_zero, sub_all _ _ (sub_len _ _ _ h1), sub_all _ _ (sub_len _ _ _ h2)]
theorem run_eql_struct_ints {t : TypeId} {n : Nat} {fs : Array Field} (ht : P.underlying t = some (.struct fs)) (hp : P.stoodInHeld t = false) (hF : EqF P 9999 n fs.toList 0) (w : World) (xs ys : List Int) (h1 : xs.length = n) (h2 : ys.length = n) :
    (Op.equalIn 10000 t (.agg (ic xs)) (.agg (ic ys))).run P w = .ok (decide (xs = ys)) w := by
  have he := fieldsOf_eq ht
  subst he
  rw [run_equalIn_struct w 9999 t _ _ ht hp, EqF.run w _ _ (by omega) (by omega) _ 0 hF, Nat.sub_zero, sub_all _ _ h1, sub_all _ _ h2]
/-- x == y, structs of integers. -/
theorem wpList_seql {ops : Array Oper} {rest : List Oper} {o : Oper} {a : Act} {w : World} {Q : Exit → Act → World → Prop} (t : TypeId) (x y : Operand) (t2 : TypeId) (ho : o.op = .binOp .eql t x y t2) (hgd : Region.wanted o (yielded ops a.tmps) = true)
    (cs ds : Array Value) (hx : a.eval x = .agg cs) (hy : a.eval y = .agg ds) (xs ys : List Int) (hcs : cs = ic xs) (hds : ds = ic ys) {n : Nat} {fs : Array Field} (ht : P.underlying t = some (.struct fs)) (hp : P.stoodInHeld t = false) (hF : EqF P 9999 n fs.toList 0) (h1 : xs.length = n) (h2 : ys.length = n)
    (hm : P.eqGuardType P.depth t = false) (r : Bool) (hr : decide (xs = ys) = r) (hK : wpList P ops Q rest (a.put o.dst (.bool r)) w) : wpList P ops Q (o :: rest) a w := by
  subst hcs hds hr
  refine wpList_wanted hgd fun _ hK' => ?_
  unfold Oper.wp execOp
  simp [ho, hx, hy, Sem.run_bind, run_eqGuard_agg w .eql t x y _ _ hm, run_eql_struct w t, run_eql_struct_ints ht hp hF w xs ys h1 h2, Result.andThen]
  exact hK' _ _ hK
theorem wpList_sneq {ops : Array Oper} {rest : List Oper} {o : Oper} {a : Act} {w : World} {Q : Exit → Act → World → Prop} (t : TypeId) (x y : Operand) (t2 : TypeId) (ho : o.op = .binOp .neq t x y t2) (hgd : Region.wanted o (yielded ops a.tmps) = true)
    (cs ds : Array Value) (hx : a.eval x = .agg cs) (hy : a.eval y = .agg ds) (xs ys : List Int) (hcs : cs = ic xs) (hds : ds = ic ys) {n : Nat} {fs : Array Field} (ht : P.underlying t = some (.struct fs)) (hp : P.stoodInHeld t = false) (hF : EqF P 9999 n fs.toList 0) (h1 : xs.length = n) (h2 : ys.length = n)
    (hm : P.eqGuardType P.depth t = false) (r : Bool) (hr : decide (xs = ys) = r) (hK : wpList P ops Q rest (a.put o.dst (.bool (!r))) w) : wpList P ops Q (o :: rest) a w := by
  subst hcs hds hr
  refine wpList_wanted hgd fun _ hK' => ?_
  unfold Oper.wp execOp
  simp [ho, hx, hy, Sem.run_bind, run_eqGuard_agg w .neq t x y _ _ hm, run_neq_struct w t, run_eql_struct_ints ht hp hF w xs ys h1 h2, Result.andThen]
  exact hK' _ _ (by simpa using hK)
end
theorem eqV : EqE Tryd.prog 27 2 9999 := EqE.struct (d := 9998) Tryd.underlying27 (by kernel_rfl) (by kernel_rfl) ⟨by decide, rfl, 1, EqE.int Tryd.underlying3 9997, by omega, by decide, rfl, 1, EqE.int Tryd.underlying3 9997, by omega, rfl⟩
theorem eqA4 : EqE Tryd.prog 30 4 9999 := EqE.arr (n := 4) Tryd.underlying30 size_int (by kernel_rfl) (EqE.int Tryd.underlying3 9997)
theorem eqA64 : EqE Tryd.prog 32 64 9999 := EqE.arr (n := 4) Tryd.underlying32 size_A16 (by kernel_rfl) (EqE.arr (n := 16) (d := 9997) Tryd.underlying31 size_int size_A16 (EqE.int Tryd.underlying3 9996))
/-- The macroblocks' fields as lists. -/
theorem eqM {fs : Array Field} (h : Tryd.prog.underlying 34 = some (.struct fs)) : EqF Tryd.prog 9999 71 fs.toList 0 := by
  rw [Tryd.underlying34] at h
  cases h
  exact ⟨by decide, rfl, 1, EqE.int Tryd.underlying3 9998, by omega, by decide, rfl, 2, eqV, by omega, by decide, rfl, 4, eqA4, by omega, by decide, rfl, 64, eqA64, by omega, rfl⟩
theorem hpM : Tryd.prog.stoodInHeld 34 = false := by kernel_rfl
theorem hmM : Tryd.prog.eqGuardType Tryd.prog.depth 34 = false := by kernel_rfl
end Go.Proofs.YtbnhaegidfbgbaaDoor
namespace Go.Proofs.YtbnhaegidfbgbaaDoor
open Go.RowKit
set_option maxHeartbeats 1000000
theorem byte_rangeV {L : List Int} (h : ∀ z ∈ L, (Lit.int .u8 z).wf = true) : ∀ z ∈ L, 0 ≤ z ∧ z ≤ 255 := by
  intro z hz
  have := h z hz
  simp [Lit.wf, IntKind.min, IntKind.max, IntKind.signed, IntKind.bits] at this
  exact ⟨by omega, by omega⟩
theorem zeroc_M2 : Tryd.zeroCells34 = ic (zl 71) := by kernel_rfl
theorem mac0_zU : mac0.zs = zl 71 := by decide
theorem sl_kept {w w' : World} {a : Option Addr} {n r : Nat} {xs : List Value} (h : Sl w a n xs) (g : w.grownBy w' (some r)) (hb : ∀ y, a = some y → 0 < n → y.block < r) : Sl w' a n xs := by
  by_cases h0 : n = 0
  · subst h0
    exact ⟨h.1, fun i hi => by omega⟩
  · exact h.grown g (fun y hy e => by have := hb y hy (by omega); simp at e; omega)
theorem PBx.e {w w' : World} {b : Nat} {p : Pic} {a : Option Addr} {n c : Nat} (h : PBx w b p a n c) (e : Ext w w') : PBx w' b p a n c := e.blk h
/-- What lies in the law's boxes: two pictures, a macroblock. -/
structure LS (w : World) (O : Nat) (p : Pic) (a : Option Addr) (n c : Nat) (q : Pic) (a2 : Option Addr) (n2 c2 u : Nat) (Z : List Int) (wx : World) : Prop where
  ex : Ext w wx
  b1 : PBx wx O p a n c
  b2 : PBx wx (O + 1) q a2 n2 c2
  ib : IB wx u 34 Z
  s1 : Sl wx a n (p.px.map (Value.int .i64))
  s2 : Sl wx a2 n2 (q.px.map (Value.int .i64))
theorem LS.e {w wx wy : World} {O n c n2 c2 u : Nat} {p q : Pic} {a a2 : Option Addr} {Z : List Int} (h : LS w O p a n c q a2 n2 c2 u Z wx) (e : Ext wx wy) : LS w O p a n c q a2 n2 c2 u Z wy :=
  ⟨h.ex.trans e, e.blk h.b1, e.blk h.b2, h.ib.ext e, h.s1.ext e, h.s2.ext e⟩
theorem VB1.ext {w w' : World} {b : Nat} {x y : Int} (h : w.heap[b]? = some (.cells #[.int .i64 x, .int .i64 y] 27 (0, 0))) (e : Ext w w') : w'.heap[b]? = some (.cells #[.int .i64 x, .int .i64 y] 27 (0, 0)) := e.blk h
end Go.Proofs.YtbnhaegidfbgbaaDoor
namespace Go.Proofs.YtbnhaegidfbgbaaDoor
open Go.RowKit
set_option maxHeartbeats 1000000
theorem eqVF {fs : Array Field} (h : Tryd.prog.underlying 27 = some (.struct fs)) : EqF Tryd.prog 9999 2 fs.toList 0 := by
  rw [Tryd.underlying27] at h
  cases h
  exact ⟨by decide, rfl, 1, EqE.int Tryd.underlying3 9998, by omega, by decide, rfl, 1, EqE.int Tryd.underlying3 9998, by omega, rfl⟩
set_option maxRecDepth 100000 in
set_option maxHeartbeats 8000000 in
theorem law_FnInterMacro (s : Option Addr) (cc m : Nat) (bs : List Int) (w : World) (hT : TabQ w) (hn0 : m ≤ cc ∧ cc ≤ maxLen) (sl : Sl w s m (bs.map (Value.int .u8))) (wf : ∀ z ∈ bs, (Lit.int .u8 z).wf = true) :
    Calls Tryd.prog 3 #[.slice s m cc] w fun e w' => e = .returned (.bool true) ∧ Ext w w' := by
  have hn : m ≤ cc ∧ cc ≤ 9223372036854775807 := ⟨hn0.1, hn0.2⟩
  clear hn0
  by_cases hbig : 1048576 < m
  · clear sl wf hT
    go_enter Tryd.func3, Tryd.ntmps3
    go_wp2
    go_ret
    exact ⟨rfl, Below.refl _ _⟩
  have hz := byte_rangeV wf
  clear wf
  go_enter Tryd.func3, Tryd.ntmps3
  go_wp2_with fail
  refine (DrawInterMacro_any s cc m bs _ hn.1 hn.2 sl hz).mono ?_
  rintro e w1 ⟨p, q, a, a2, c, n, c2, n2, x, y, vx, vy, qq, rfl, hqq, ⟨hn1, hn2, s1⟩, ⟨hm1, hm2, s2⟩, E1⟩
  clear sl hz
  have HS := Lib.hid (fun (w : World) (s1 : Sl w a n (p.px.map (Value.int .i64))) (s2 : Sl w a2 n2 (q.px.map (Value.int .i64))) => spec_InterMacro_any p q x y vx vy qq a a2 c c2 n n2 w hn1 hm1 (by omega) (by omega) s1 s2)
  have HI := Lib.hid (fun (w : World) (hT : TabQ w) (s1 : Sl w a n (p.px.map (Value.int .i64))) (s2 : Sl w a2 n2 (q.px.map (Value.int .i64))) => impl_InterMacro_any p q x y vx vy qq a a2 c c2 n n2 w hT hn1 hm1 (by omega) (by omega) s1 s2)
  have HI0 := Lib.hid (fun (w : World) (hT : TabQ w) (s1 : Sl w a n (p.px.map (Value.int .i64))) (s2 : Sl w a2 n2 (q.px.map (Value.int .i64))) => impl_InterMacro_any p q x y vx vy 0 a a2 c c2 n n2 w hT hn1 hm1 (by omega) (by omega) s1 s2)
  have Hrl := Lib.hid (Mac.zs_len (interP_ok p q x y vx vy qq))
  have Hro := Lib.hid (interP_ok p q x y vx vy qq)
  obtain ⟨R, hR⟩ : ∃ R, R = interP p q x y vx vy qq := ⟨_, rfl⟩
  rw [← hR] at HS HI Hrl Hro
  have HR := Lib.hid hR
  have HN1 := Lib.hid hn1
  have HM1' := Lib.hid hm1
  obtain ⟨O, hO⟩ : ∃ O, O = w1.heap.size := ⟨_, rfl⟩
  have e2 : Ext w1 (((w1.alloc (.cells #[.int .i64 p.w, .int .i64 p.h, .slice a n c] 25)).alloc (.cells #[.int .i64 q.w, .int .i64 q.h, .slice a2 n2 c2] 25)).alloc (.cells #[.int .i64 vx, .int .i64 vy] 27)) := ((Ext.alloc w1 _).trans (Ext.alloc _ _)).trans (Ext.alloc _ _)
  have b1 : PBx (((w1.alloc (.cells #[.int .i64 p.w, .int .i64 p.h, .slice a n c] 25)).alloc (.cells #[.int .i64 q.w, .int .i64 q.h, .slice a2 n2 c2] 25)).alloc (.cells #[.int .i64 vx, .int .i64 vy] 27)) O p a n c := by rw [hO]; exact (Ext.alloc _ _).blk ((Ext.alloc _ _).blk (blk_new _ _))
  have b2 : PBx (((w1.alloc (.cells #[.int .i64 p.w, .int .i64 p.h, .slice a n c] 25)).alloc (.cells #[.int .i64 q.w, .int .i64 q.h, .slice a2 n2 c2] 25)).alloc (.cells #[.int .i64 vx, .int .i64 vy] 27)) (O + 1) q a2 n2 c2 := by have := blk_new (w1.alloc (.cells #[.int .i64 p.w, .int .i64 p.h, .slice a n c] 25)) (.cells #[.int .i64 q.w, .int .i64 q.h, .slice a2 n2 c2] 25); rw [World.size_alloc, ← hO] at this; exact (Ext.alloc _ _).blk this
  have v1 : (((w1.alloc (.cells #[.int .i64 p.w, .int .i64 p.h, .slice a n c] 25)).alloc (.cells #[.int .i64 q.w, .int .i64 q.h, .slice a2 n2 c2] 25)).alloc (.cells #[.int .i64 vx, .int .i64 vy] 27)).heap[O + 2]? = some (.cells #[.int .i64 vx, .int .i64 vy] 27 (0, 0)) := by have := blk_new ((w1.alloc (.cells #[.int .i64 p.w, .int .i64 p.h, .slice a n c] 25)).alloc (.cells #[.int .i64 q.w, .int .i64 q.h, .slice a2 n2 c2] 25)) (.cells #[.int .i64 vx, .int .i64 vy] 27); rw [World.size_alloc, World.size_alloc, ← hO] at this; exact this
  have E2 := E1.trans e2
  have t1 := s1.ext e2
  have t2 := s2.ext e2
  have z1 := E1.size
  clear hR hn1 hm1 s1 s2 E1 e2
  go_upto_region 4 with fail
  try simp only [World.size_alloc]
  rw [← hO]
  generalize (((w1.alloc (.cells #[.int .i64 p.w, .int .i64 p.h, .slice a n c] 25)).alloc (.cells #[.int .i64 q.w, .int .i64 q.h, .slice a2 n2 c2] 25)).alloc (.cells #[.int .i64 vx, .int .i64 vy] 27)) = w2 at *
  rw [← hO] at z1
  clear hO
  obtain ⟨k0, k1, k2⟩ := b1.cells
  obtain ⟨j0, j1, j2⟩ := b2.cells
  obtain ⟨-, i0, i1, -⟩ := bx2 v1
  go_wp2_with fail
  refine (HI.out _ (hT.ext E2) t1 t2).mono ?_
  rintro e w3 ⟨rfl, e3⟩
  obtain ⟨u, hu⟩ : ∃ u, u = w3.heap.size := ⟨_, rfl⟩
  have Q4 := IB.new w3 34 (zl 71)
  have a4 := Ext.alloc w3 (.cells (ic (zl 71)) 34)
  have g1 := a4.blk (e3.blk b1)
  have g2 := a4.blk (e3.blk b2)
  have g3 := a4.blk (e3.blk v1)
  have t1' := (t1.ext e3).ext a4
  have t2' := (t2.ext e3).ext a4
  have E4 := (E2.trans e3).trans a4
  have hl1 := lt_of_block (e3.blk b1)
  have hl2 := lt_of_block (e3.blk b2)
  have hl3 := lt_of_block (e3.blk v1)
  have y1 := sl_bound (t1.ext e3)
  have y2 := sl_bound (t2.ext e3)
  go_wp2_with (first | (refine wpList_iallocz 34 rfl rfl 71 zero_Macz ?_; (try simp only [World.size_alloc])) | (refine wpList_istore 34 _ _ rfl rfl Q4 0 71 rfl _ rfl R.zs rfl size_Macro Hrl.out (by simp [zl]) ?_; intro w5 r5 gg; refine Hid.out ?_))
  rw [spl_all (by rw [Hrl.out, zl_len])] at r5
  rw [← hu] at r5 gg hl1 hl2 hl3 y1 y2 ⊢
  have L5 : LS w O p a n c q a2 n2 c2 u R.zs w5 := ⟨Ext.grown E4 gg (fun k hk => by cases hk; omega), blk_gr g1 gg (by simp; omega), blk_gr g2 gg (by simp; omega), r5, sl_kept t1' gg y1, sl_kept t2' gg y2⟩
  have V5 := blk_gr g3 gg (show some u ≠ some (O + 2) by simp; omega)
  clear Q4 a4 g1 g2 g3 hl3 v1 i0 i1 t1' t2' E4 hl1 hl2 y1 y2 r5 gg hu e3 b1 b2 E2 t1 t2 k0 k1 k2 j0 j1 j2
  refine Lib.hid ?_
  go_upto_region 5 with fail
  have hext : ∀ (i : Nat) (own : Value) (ys : Nat → Value) (wa wb : World), Ext wa wb → (match i with | 0 => own = .agg (ic R.zs) | 1 => own = .agg #[.int .i64 p.w, .int .i64 p.h, .slice a n c] | 2 => own = .agg #[.int .i64 q.w, .int .i64 q.h, .slice a2 n2 c2] | 3 => own = .int .i64 x | 4 => own = .int .i64 y | 5 => own = .agg #[.int .i64 vx, .int .i64 vy] | 6 => own = .int .i64 qq | 7 => own = .agg (ic R.zs) | 8 => own = .bool false | _ => True) → (match i with | 0 => own = .agg (ic R.zs) | 1 => own = .agg #[.int .i64 p.w, .int .i64 p.h, .slice a n c] | 2 => own = .agg #[.int .i64 q.w, .int .i64 q.h, .slice a2 n2 c2] | 3 => own = .int .i64 x | 4 => own = .int .i64 y | 5 => own = .agg #[.int .i64 vx, .int .i64 vy] | 6 => own = .int .i64 qq | 7 => own = .agg (ic R.zs) | 8 => own = .bool false | _ => True) := by
    intro i own ys wa wb e h
    match i, h with
    | 0, h => exact h
    | 1, h => exact h
    | 2, h => exact h
    | 3, h => exact h
    | 4, h => exact h
    | 5, h => exact h
    | 6, h => exact h
    | 7, h => exact h
    | 8, h => exact h
    | _ + 9, _ => trivial
  have Hext := Lib.hid hext
  clear hext
  refine wp_region_inv2 (by kernel_rfl) [(31, 0), (32, 1), (33, 2), (34, 3), (35, 4), (36, 5), (37, 6), (38, 7), (39, 8)] [[], [], [], [], [], [], [], [1, 2, 3, 4, 5, 6], [0, 1, 2, 3, 4, 5, 6, 7]] (fun i own ys wx => match i with | 0 => own = .agg (ic R.zs) | 1 => own = .agg #[.int .i64 p.w, .int .i64 p.h, .slice a n c] | 2 => own = .agg #[.int .i64 q.w, .int .i64 q.h, .slice a2 n2 c2] | 3 => own = .int .i64 x | 4 => own = .int .i64 y | 5 => own = .agg #[.int .i64 vx, .int .i64 vy] | 6 => own = .int .i64 qq | 7 => own = .agg (ic R.zs) | 8 => own = .bool false | _ => True) (fun kx wx => Ext w5 wx) (by kernel_rfl) (by kernel_rfl) (by kernel_rfl) ?g0_r1 ?gop_r1 ?gend_r1
  case g0_r1 => exact Ext.drewN _ 1
  case gop_r1 =>
    refine ⟨?_, ?_, ?_, ?_, ?_, ?_, ?_, ?_, ?_, trivial⟩
    · intro kx xs wx hk hG hD hI Qo Kx hK hQo
      clear hD
      clear hI
      simp only [patchS, Nat.reduceAdd, Nat.reduceEqDiff, ↓reduceIte] at hQo ⊢
      have rx := (L5.e hG).ib
      go_wp2_with (refine wpList_iload 34 _ rfl rfl rx 0 71 rfl _ Tryd.underlying34 rfl size_Macro (by rw [Hrl.out]; omega) _ (by rw [sub_all _ _ Hrl.out]) ?_)
      exact hK.out _ _ ⟨rfl, hG, fun _ _ _ _ _ _ h => h⟩
    · intro kx xs wx hk hG hD hI Qo Kx hK hQo
      clear hD
      clear hI
      simp only [patchS, Nat.reduceAdd, Nat.reduceEqDiff, ↓reduceIte] at hQo ⊢
      obtain ⟨k0, k1, k2⟩ := PBx.cells (L5.e hG).b1
      go_wp2
      exact hK.out _ _ ⟨rfl, hG, fun _ _ _ _ _ _ h => h⟩
    · intro kx xs wx hk hG hD hI Qo Kx hK hQo
      clear hD
      clear hI
      simp only [patchS, Nat.reduceAdd, Nat.reduceEqDiff, ↓reduceIte] at hQo ⊢
      obtain ⟨k0, k1, k2⟩ := PBx.cells (L5.e hG).b2
      go_wp2
      exact hK.out _ _ ⟨rfl, hG, fun _ _ _ _ _ _ h => h⟩
    · intro kx xs wx hk hG hD hI Qo Kx hK hQo
      clear hD
      clear hI
      simp only [patchS, Nat.reduceAdd, Nat.reduceEqDiff, ↓reduceIte] at hQo ⊢
      go_wp2
      exact hK.out _ _ ⟨rfl, hG, fun _ _ _ _ _ _ h => h⟩
    · intro kx xs wx hk hG hD hI Qo Kx hK hQo
      clear hD
      clear hI
      simp only [patchS, Nat.reduceAdd, Nat.reduceEqDiff, ↓reduceIte] at hQo ⊢
      go_wp2
      exact hK.out _ _ ⟨rfl, hG, fun _ _ _ _ _ _ h => h⟩
    · intro kx xs wx hk hG hD hI Qo Kx hK hQo
      clear hD
      clear hI
      simp only [patchS, Nat.reduceAdd, Nat.reduceEqDiff, ↓reduceIte] at hQo ⊢
      obtain ⟨-, k0, k1, -⟩ := bx2 (VB1.ext V5 hG)
      go_wp2
      exact hK.out _ _ ⟨rfl, hG, fun _ _ _ _ _ _ h => h⟩
    · intro kx xs wx hk hG hD hI Qo Kx hK hQo
      clear hD
      clear hI
      simp only [patchS, Nat.reduceAdd, Nat.reduceEqDiff, ↓reduceIte] at hQo ⊢
      go_wp2
      exact hK.out _ _ ⟨rfl, hG, fun _ _ _ _ _ _ h => h⟩
    · intro kx xs wx hk hG hD hI Qo Kx hK hQo
      have d1 : (xs 1) = .agg #[.int .i64 p.w, .int .i64 p.h, .slice a n c] := hD 1 rfl
      have d2 : (xs 2) = .agg #[.int .i64 q.w, .int .i64 q.h, .slice a2 n2 c2] := hD 2 rfl
      have d3 : (xs 3) = .int .i64 x := hD 3 rfl
      have d4 : (xs 4) = .int .i64 y := hD 4 rfl
      have d5 : (xs 5) = .agg #[.int .i64 vx, .int .i64 vy] := hD 5 rfl
      have d6 : (xs 6) = .int .i64 qq := hD 6 rfl
      clear hD
      clear hI
      simp only [patchS, Nat.reduceAdd, Nat.reduceEqDiff, ↓reduceIte] at hQo ⊢
      generalize xs 1 = y1 at *
      generalize xs 2 = y2 at *
      generalize xs 3 = y3 at *
      generalize xs 4 = y4 at *
      generalize xs 5 = y5 at *
      generalize xs 6 = y6 at *
      subst d1
      subst d2
      subst d3
      subst d4
      subst d5
      subst d6
      go_wp2_with fail
      refine (HS.out _ (L5.e hG).s1 (L5.e hG).s2).mono ?_
      rintro e wz ⟨rfl, ez⟩
      go_wp2
      exact hK.out _ _ ⟨rfl, hG.trans ez, fun i _ _ _ own ys h => Hext.out i own ys _ _ ez h⟩
    · intro kx xs wx hk hG hD hI Qo Kx hK hQo
      have d0 : (xs 0) = .agg (ic R.zs) := hD 0 rfl
      have d7 : (xs 7) = .agg (ic R.zs) := hD 7 rfl
      clear hD
      clear hI
      simp only [patchS, Nat.reduceAdd, Nat.reduceEqDiff, ↓reduceIte] at hQo ⊢
      generalize xs 0 = y0 at *
      generalize xs 7 = y7 at *
      subst d0
      subst d7
      go_wp2_with (refine wpList_sneq 34 _ _ _ rfl rfl _ _ rfl rfl R.zs R.zs rfl rfl Tryd.underlying34 hpM (eqM Tryd.underlying34) Hrl.out Hrl.out hmM true (by simp) ?_)
      exact hK.out _ _ ⟨rfl, hG, fun _ _ _ _ _ _ h => h⟩
  clear Hext
  intro xs wx hV hG
  have d0 : (xs 0) = .agg (ic R.zs) := hV 0 (by decide)
  have d1 : (xs 1) = .agg #[.int .i64 p.w, .int .i64 p.h, .slice a n c] := hV 1 (by decide)
  have d2 : (xs 2) = .agg #[.int .i64 q.w, .int .i64 q.h, .slice a2 n2 c2] := hV 2 (by decide)
  have d3 : (xs 3) = .int .i64 x := hV 3 (by decide)
  have d4 : (xs 4) = .int .i64 y := hV 4 (by decide)
  have d5 : (xs 5) = .agg #[.int .i64 vx, .int .i64 vy] := hV 5 (by decide)
  have d6 : (xs 6) = .int .i64 qq := hV 6 (by decide)
  have d7 : (xs 7) = .agg (ic R.zs) := hV 7 (by decide)
  have d8 : (xs 8) = .bool false := hV 8 (by decide)
  clear hV
  simp only [patchS, Nat.reduceAdd, Nat.reduceEqDiff, ↓reduceIte]
  generalize xs 0 = y0 at *
  generalize xs 1 = y1 at *
  generalize xs 2 = y2 at *
  generalize xs 3 = y3 at *
  generalize xs 4 = y4 at *
  generalize xs 5 = y5 at *
  generalize xs 6 = y6 at *
  generalize xs 7 = y7 at *
  generalize xs 8 = y8 at *
  replace hG : Ext w5 wx := hG
  clear d0 d1 d2 d3 d4 d5 d6 d7
  subst d8
  have L7 := L5.e hG
  have V7 := VB1.ext V5 hG
  clear L5 hG V5
  generalize wx = w7 at *
  have hk := L7.ib.cell (i := 0) (by rw [Hrl.out]; omega)
  rw [Mac.zs_kind] at hk
  by_cases ho : okI p q x y vx vy qq
  · obtain ⟨X, hX⟩ : ∃ X : Nat, x = X := ⟨x.toNat, by have := ho.2.1.2.1; omega⟩
    obtain ⟨Y, hY⟩ : ∃ Y : Nat, y = Y := ⟨y.toNat, by have := ho.2.1.2.2.2.2.1; omega⟩
    subst hX hY
    obtain ⟨hRv, hRk, hRx, hRy, D, hD, hDv, hDw, hDh, hDB⟩ := inter_plain ho
    rw [← HR.out] at hRv hRk hRx hRy
    rw [hRk] at hk
    have HV := Lib.hid (fun (w : World) => impl_MacroValid_any R w Hro.out)
    rw [decide_eq_true hRv] at HV
    have Hfo := Lib.hid (interP_ok p q X Y vx vy 0)
    have Hfl := Lib.hid (Mac.zs_len (interP_ok p q X Y vx vy 0))
    obtain ⟨F, hF⟩ : ∃ F, F = interP p q X Y vx vy 0 := ⟨_, rfl⟩
    rw [← hF] at HI0 Hfo Hfl hD
    have HRC := Lib.hid (fun (w : World) (hT : TabQ w) (s2 : Sl w a2 n2 (q.px.map (Value.int .i64))) => impl_Reconstruct_any q q X Y F 0 0 a2 a2 c2 c2 n2 n2 w hT HM1'.out HM1'.out (by omega) (by omega) s2 s2 Hfo.out)
    rw [hD] at HRC
    have hpl : placeP p X Y := ho.2.1
    have hp0 : vv 0 0 := ⟨by decide, by decide, by decide, by decide⟩
    obtain ⟨B, hB⟩ : ∃ B, B = blkL p X Y 0 0 := ⟨_, rfl⟩
    have HM1 := Lib.hid (fun (a : Option Addr) (c : Nat) (w : World) (s : Sl w a D.px.length (D.px.map (Value.int .i64))) => MotionBlock_yes D X Y 0 0 a c D.px.length w hDv rfl s hp0 ⟨by omega, by rw [hDw, ← ho.1.2.2.1]; exact hpl.2.2.1, hpl.2.2.2.1, by omega, by rw [hDh, ← ho.1.2.2.2]; exact hpl.2.2.2.2.2.1, hpl.2.2.2.2.2.2⟩)
    have HM2 := Lib.hid (fun (w : World) (s : Sl w a n (p.px.map (Value.int .i64))) => MotionBlock_yes p X Y 0 0 a c n w hpl.1 HN1.out s hp0 ⟨by omega, hpl.2.2.1, hpl.2.2.2.1, by omega, hpl.2.2.2.2.2.1, hpl.2.2.2.2.2.2⟩)
    rw [hDB, ← hB] at HM1
    rw [← hB] at HM2
    have Hkx := Lib.hid hRx
    have Hky := Lib.hid hRy
    clear HS HI HR hD hDv hDw hDh hDB hRv hRk hRx hRy hpl hp0 hB hF ho
    obtain ⟨Zn, hZn⟩ : ∃ Zn, Zn = D.px.length := ⟨_, rfl⟩
    rw [← hZn] at HRC HM1
    clear hZn
    obtain ⟨k0, k1, k2⟩ := PBx.cells L7.b1
    obtain ⟨j0, j1, j2⟩ := PBx.cells L7.b2
    obtain ⟨-, i0, i1, -⟩ := bx2 V7
    go_wp2_with fail
    refine (HI0.out _ (hT.ext L7.ex) L7.s1 L7.s2).mono ?_
    rintro e w8 ⟨rfl, e8⟩
    have L8 := L7.e e8
    have V8 := VB1.ext V7 e8
    obtain ⟨f, hf⟩ : ∃ f, f = w8.heap.size := ⟨_, rfl⟩
    have Q8 := IB.new w8 34 (zl 71)
    have a8 := Ext.alloc w8 (.cells (ic (zl 71)) 34)
    have L8' := L8.e a8
    have hl1 := lt_of_block L8.b1
    have hl2 := lt_of_block L8.b2
    have hl3 := lt_of_block L8.ib
    have z8 := L8.ex.size
    have y1 := sl_bound L8.s1
    have y2 := sl_bound L8.s2
    have V8' := VB1.ext V8 a8
    have hl4 := lt_of_block V8
    clear L7 e8 k0 k1 k2 j0 j1 j2 i0 i1 V7 hk
    go_wp2_with (first | (refine wpList_iallocz 34 rfl rfl 71 zero_Macz ?_; (try simp only [World.size_alloc])) | (refine wpList_istore 34 _ _ rfl rfl Q8 0 71 rfl _ rfl F.zs rfl size_Macro Hfl.out (by simp [zl]) ?_; intro w9 r9 gg; refine Hid.out ?_))
    rw [spl_all (by rw [Hfl.out, zl_len])] at r9
    rw [← hf] at r9 gg hl1 hl2 hl3 z8 y1 y2 hl4 ⊢
    have L9 : LS w O p a n c q a2 n2 c2 u R.zs w9 := ⟨Ext.grown L8'.ex gg (fun k hk => by cases hk; exact z8), blk_gr L8'.b1 gg (by simp; omega), blk_gr L8'.b2 gg (by simp; omega), L8'.ib.gr gg (by simp; omega), sl_kept L8'.s1 gg y1, sl_kept L8'.s2 gg y2⟩
    have V9 := blk_gr V8' gg (show some f ≠ some (O + 2) by simp; omega)
    clear L8 L8' Q8 a8 hl1 hl2 hl3 z8 y1 y2 V8 V8' hl4 gg hf
    refine Lib.hid ?_
    obtain ⟨j0, j1, j2⟩ := PBx.cells L9.b2
    go_wp2_with (first | (refine wpList_iload 34 _ rfl rfl r9 0 71 rfl _ Tryd.underlying34 rfl size_Macro (by rw [Hfl.out]; omega) _ (by rw [sub_all _ _ Hfl.out]) ?_))
    refine (HRC.out _ (hT.ext L9.ex) L9.s2).mono ?_
    rintro e w10 ⟨a11, c11, rfl, o10, e10⟩
    obtain ⟨U, hU⟩ : ∃ U, U = w10.heap.size := ⟨_, rfl⟩
    have e11 := Ext.alloc w10 (.cells #[.int .i64 D.w, .int .i64 D.h, .slice a11 Zn c11] 25)
    have B11 : PBx (w10.alloc (.cells #[.int .i64 D.w, .int .i64 D.h, .slice a11 Zn c11] 25)) U D a11 Zn c11 := by rw [hU]; exact blk_new _ _
    have L11 := (L9.e e10).e e11
    have s11 := (Sl.of_owns o10).ext e11
    have V11 := VB1.ext (VB1.ext V9 e10) e11
    clear L9 e10 e11 o10 r9 j0 j1 j2 V9
    go_upto_region 11 with fail
    rw [← hU]
    generalize w10.alloc (.cells #[.int .i64 D.w, .int .i64 D.h, .slice a11 Zn c11] 25) = w11 at *
    clear hU
    have hext : ∀ (i : Nat) (own : Value) (ys : Nat → Value) (wa wb : World), Ext wa wb → (match i with | 0 => own = .agg (ic R.zs) | 1 => own = .bool true | 2 => own = .bool true | 3 => own = .pointer (some ⟨u, 1, none⟩) | 4 => own = .agg #[.int .i64 vx, .int .i64 vy] | 5 => own = .agg #[.int .i64 vx, .int .i64 vy] | 6 => own = .bool true | 7 => own = .bool true | 8 => own = .bool true | 9 => own = .agg #[.int .i64 D.w, .int .i64 D.h, .slice a11 Zn c11] | 10 => own = .int .i64 (X : Nat) | 11 => own = .int .i64 (Y : Nat) | 12 => own = .agg #[.int .i64 0, .int .i64 0] | 13 => ∃ (a7 : Option Addr) (c7 : Nat), own = .slice a7 64 c7 ∧ Sl wa a7 64 (B.map (Value.int .i64)) | 14 => own = .agg #[.int .i64 p.w, .int .i64 p.h, .slice a n c] | 15 => own = .int .i64 (X : Nat) | 16 => own = .int .i64 (Y : Nat) | 17 => own = .agg #[.int .i64 0, .int .i64 0] | 18 => ∃ (a7 : Option Addr) (c7 : Nat), own = .slice a7 64 c7 ∧ Sl wa a7 64 (B.map (Value.int .i64)) | 19 => own = .bool true | 20 => own = .bool true | 21 => own = .bool true | _ => True) → (match i with | 0 => own = .agg (ic R.zs) | 1 => own = .bool true | 2 => own = .bool true | 3 => own = .pointer (some ⟨u, 1, none⟩) | 4 => own = .agg #[.int .i64 vx, .int .i64 vy] | 5 => own = .agg #[.int .i64 vx, .int .i64 vy] | 6 => own = .bool true | 7 => own = .bool true | 8 => own = .bool true | 9 => own = .agg #[.int .i64 D.w, .int .i64 D.h, .slice a11 Zn c11] | 10 => own = .int .i64 (X : Nat) | 11 => own = .int .i64 (Y : Nat) | 12 => own = .agg #[.int .i64 0, .int .i64 0] | 13 => ∃ (a7 : Option Addr) (c7 : Nat), own = .slice a7 64 c7 ∧ Sl wb a7 64 (B.map (Value.int .i64)) | 14 => own = .agg #[.int .i64 p.w, .int .i64 p.h, .slice a n c] | 15 => own = .int .i64 (X : Nat) | 16 => own = .int .i64 (Y : Nat) | 17 => own = .agg #[.int .i64 0, .int .i64 0] | 18 => ∃ (a7 : Option Addr) (c7 : Nat), own = .slice a7 64 c7 ∧ Sl wb a7 64 (B.map (Value.int .i64)) | 19 => own = .bool true | 20 => own = .bool true | 21 => own = .bool true | _ => True) := by
      intro i own ys wa wb e h
      match i, h with
      | 0, h => exact h
      | 1, h => exact h
      | 2, h => exact h
      | 3, h => exact h
      | 4, h => exact h
      | 5, h => exact h
      | 6, h => exact h
      | 7, h => exact h
      | 8, h => exact h
      | 9, h => exact h
      | 10, h => exact h
      | 11, h => exact h
      | 12, h => exact h
      | 13, h => obtain ⟨a9, c9, h1, h2⟩ := h; exact ⟨a9, c9, h1, h2.ext e⟩
      | 14, h => exact h
      | 15, h => exact h
      | 16, h => exact h
      | 17, h => exact h
      | 18, h => obtain ⟨a9, c9, h1, h2⟩ := h; exact ⟨a9, c9, h1, h2.ext e⟩
      | 19, h => exact h
      | 20, h => exact h
      | 21, h => exact h
      | _ + 22, _ => trivial
    have Hext := Lib.hid hext
    clear hext
    refine wp_region_inv2 (by kernel_rfl) [(2, 21), (61, 0), (62, 1), (63, 2), (64, 3), (65, 4), (66, 5), (67, 6), (68, 7), (69, 8), (70, 9), (71, 10), (72, 11), (73, 12), (74, 13), (75, 14), (76, 15), (77, 16), (78, 17), (79, 18), (80, 19), (81, 20)] [[], [0], [0, 1], [0, 1, 2], [0, 1, 2, 3], [0, 1, 2], [0, 1, 2, 3, 4, 5], [0, 1, 2, 3, 4, 5, 6], [0, 1, 2, 3, 4, 5, 6, 7], [0, 1, 2, 3, 4, 5, 6, 7, 8], [0, 1, 2, 3, 4, 5, 6, 7, 8], [0, 1, 2, 3, 4, 5, 6, 7, 8], [0, 1, 2, 3, 4, 5, 6, 7, 8], [0, 1, 2, 3, 4, 5, 6, 7, 8, 9, 10, 11, 12], [0, 1, 2, 3, 4, 5, 6, 7, 8], [0, 1, 2, 3, 4, 5, 6, 7, 8], [0, 1, 2, 3, 4, 5, 6, 7, 8], [0, 1, 2, 3, 4, 5, 6, 7, 8], [0, 1, 2, 3, 4, 5, 6, 7, 8, 9, 10, 11, 12, 13, 14, 15, 16, 17], [0, 1, 2, 3, 4, 5, 6, 7, 8, 9, 10, 11, 12, 13, 14, 15, 16, 17, 18], [0, 1, 2, 3, 4, 5, 6, 7, 8, 9, 10, 11, 12, 13, 14, 15, 16, 17, 18, 19], [0, 1, 2, 3, 4, 5, 6, 7, 8, 9, 10, 11, 12, 13, 14, 15, 16, 17, 18, 19, 20]] (fun i own ys wx => match i with | 0 => own = .agg (ic R.zs) | 1 => own = .bool true | 2 => own = .bool true | 3 => own = .pointer (some ⟨u, 1, none⟩) | 4 => own = .agg #[.int .i64 vx, .int .i64 vy] | 5 => own = .agg #[.int .i64 vx, .int .i64 vy] | 6 => own = .bool true | 7 => own = .bool true | 8 => own = .bool true | 9 => own = .agg #[.int .i64 D.w, .int .i64 D.h, .slice a11 Zn c11] | 10 => own = .int .i64 (X : Nat) | 11 => own = .int .i64 (Y : Nat) | 12 => own = .agg #[.int .i64 0, .int .i64 0] | 13 => ∃ (a7 : Option Addr) (c7 : Nat), own = .slice a7 64 c7 ∧ Sl wx a7 64 (B.map (Value.int .i64)) | 14 => own = .agg #[.int .i64 p.w, .int .i64 p.h, .slice a n c] | 15 => own = .int .i64 (X : Nat) | 16 => own = .int .i64 (Y : Nat) | 17 => own = .agg #[.int .i64 0, .int .i64 0] | 18 => ∃ (a7 : Option Addr) (c7 : Nat), own = .slice a7 64 c7 ∧ Sl wx a7 64 (B.map (Value.int .i64)) | 19 => own = .bool true | 20 => own = .bool true | 21 => own = .bool true | _ => True) (fun kx wx => Ext w11 wx) (by kernel_rfl) (by kernel_rfl) (by kernel_rfl) ?g0_r2 ?gop_r2 ?gend_r2
    case g0_r2 => exact Ext.drewN _ 1
    case gop_r2 =>
      refine ⟨?_, ?_, ?_, ?_, ?_, ?_, ?_, ?_, ?_, ?_, ?_, ?_, ?_, ?_, ?_, ?_, ?_, ?_, ?_, ?_, ?_, ?_, trivial⟩
      · intro kx xs wx hk hG hD hI Qo Kx hK hQo
        clear hD
        clear hI
        simp only [patchS, Nat.reduceAdd, Nat.reduceEqDiff, ↓reduceIte] at hQo ⊢
        have rx := (L11.e hG).ib
        go_wp2_with (refine wpList_iload 34 _ rfl rfl rx 0 71 rfl _ Tryd.underlying34 rfl size_Macro (by rw [Hrl.out]; omega) _ (by rw [sub_all _ _ Hrl.out]) ?_)
        exact hK.out _ _ ⟨rfl, hG, fun _ _ _ _ _ _ h => h⟩
      · intro kx xs wx hk hG hD hI Qo Kx hK hQo
        have d0 : (xs 0) = .agg (ic R.zs) := hD 0 rfl
        clear hD
        clear hI
        simp only [patchS, Nat.reduceAdd, Nat.reduceEqDiff, ↓reduceIte] at hQo ⊢
        generalize xs 0 = y0 at *
        subst d0
        go_wp2_with fail
        refine (HV.out _).mono ?_
        rintro e wz ⟨rfl, ez⟩
        go_wp2
        exact hK.out _ _ ⟨rfl, hG.trans ez, fun i _ _ _ own ys h => Hext.out i own ys _ _ ez h⟩
      · intro kx xs wx hk hG hD hI Qo Kx hK hQo
        have d1 : (xs 1) = .bool true := hD 1 rfl
        clear hD
        clear hI
        simp only [patchS, Nat.reduceAdd, Nat.reduceEqDiff, ↓reduceIte] at hQo ⊢
        generalize xs 1 = y1 at *
        subst d1
        go_wp2
        exact hK.out _ _ ⟨rfl, hG, fun _ _ _ _ _ _ h => h⟩
      · intro kx xs wx hk hG hD hI Qo Kx hK hQo
        have d2 : (xs 2) = .bool true := hD 2 rfl
        clear hD
        clear hI
        simp only [patchS, Nat.reduceAdd, Nat.reduceEqDiff, ↓reduceIte] at hQo ⊢
        generalize xs 2 = y2 at *
        subst d2
        go_wp2
        exact hK.out _ _ ⟨rfl, hG, fun _ _ _ _ _ _ h => h⟩
      · intro kx xs wx hk hG hD hI Qo Kx hK hQo
        have d3 : (xs 3) = .pointer (some ⟨u, 1, none⟩) := hD 3 rfl
        have d2 : (xs 2) = .bool true := hD 2 rfl
        clear hD
        clear hI
        simp only [patchS, Nat.reduceAdd, Nat.reduceEqDiff, ↓reduceIte] at hQo ⊢
        generalize xs 3 = y3 at *
        generalize xs 2 = y2 at *
        subst d3
        subst d2
        have rx := (L11.e hG).ib
        go_wp2_with (refine wpList_iload 27 _ rfl rfl rx 1 2 rfl _ Tryd.underlying27 rfl size_Vec (by rw [Hrl.out]; omega) #[.int .i64 vx, .int .i64 vy] (by rw [Mac.zs_mv, Hkx.out, Hky.out]) ?_)
        exact hK.out _ _ ⟨rfl, hG, fun _ _ _ _ _ _ h => h⟩
      · intro kx xs wx hk hG hD hI Qo Kx hK hQo
        have d2 : (xs 2) = .bool true := hD 2 rfl
        clear hD
        clear hI
        simp only [patchS, Nat.reduceAdd, Nat.reduceEqDiff, ↓reduceIte] at hQo ⊢
        generalize xs 2 = y2 at *
        subst d2
        obtain ⟨-, k0, k1, -⟩ := bx2 (VB1.ext V11 hG)
        go_wp2
        exact hK.out _ _ ⟨rfl, hG, fun _ _ _ _ _ _ h => h⟩
      · intro kx xs wx hk hG hD hI Qo Kx hK hQo
        have d4 : (xs 4) = .agg #[.int .i64 vx, .int .i64 vy] := hD 4 rfl
        have d5 : (xs 5) = .agg #[.int .i64 vx, .int .i64 vy] := hD 5 rfl
        have d2 : (xs 2) = .bool true := hD 2 rfl
        clear hD
        clear hI
        simp only [patchS, Nat.reduceAdd, Nat.reduceEqDiff, ↓reduceIte] at hQo ⊢
        generalize xs 4 = y4 at *
        generalize xs 5 = y5 at *
        generalize xs 2 = y2 at *
        subst d4
        subst d5
        subst d2
        go_wp2_with (refine wpList_seql 27 _ _ _ rfl rfl _ _ rfl rfl [vx, vy] [vx, vy] rfl rfl Tryd.underlying27 (by kernel_rfl) eqVF rfl rfl (by kernel_rfl) true (by simp) ?_)
        exact hK.out _ _ ⟨rfl, hG, fun _ _ _ _ _ _ h => h⟩
      · intro kx xs wx hk hG hD hI Qo Kx hK hQo
        have d2 : (xs 2) = .bool true := hD 2 rfl
        have d6 : (xs 6) = .bool true := hD 6 rfl
        clear hD
        clear hI
        simp only [patchS, Nat.reduceAdd, Nat.reduceEqDiff, ↓reduceIte] at hQo ⊢
        generalize xs 2 = y2 at *
        generalize xs 6 = y6 at *
        subst d2
        subst d6
        go_wp2
        exact hK.out _ _ ⟨rfl, hG, fun _ _ _ _ _ _ h => h⟩
      · intro kx xs wx hk hG hD hI Qo Kx hK hQo
        have d7 : (xs 7) = .bool true := hD 7 rfl
        clear hD
        clear hI
        simp only [patchS, Nat.reduceAdd, Nat.reduceEqDiff, ↓reduceIte] at hQo ⊢
        generalize xs 7 = y7 at *
        subst d7
        go_wp2
        exact hK.out _ _ ⟨rfl, hG, fun _ _ _ _ _ _ h => h⟩
      · intro kx xs wx hk hG hD hI Qo Kx hK hQo
        have d8 : (xs 8) = .bool true := hD 8 rfl
        clear hD
        clear hI
        simp only [patchS, Nat.reduceAdd, Nat.reduceEqDiff, ↓reduceIte] at hQo ⊢
        generalize xs 8 = y8 at *
        subst d8
        obtain ⟨k0, k1, k2⟩ := PBx.cells (PBx.e B11 hG)
        go_wp2
        exact hK.out _ _ ⟨rfl, hG, fun _ _ _ _ _ _ h => h⟩
      · intro kx xs wx hk hG hD hI Qo Kx hK hQo
        have d8 : (xs 8) = .bool true := hD 8 rfl
        clear hD
        clear hI
        simp only [patchS, Nat.reduceAdd, Nat.reduceEqDiff, ↓reduceIte] at hQo ⊢
        generalize xs 8 = y8 at *
        subst d8
        go_wp2
        exact hK.out _ _ ⟨rfl, hG, fun _ _ _ _ _ _ h => h⟩
      · intro kx xs wx hk hG hD hI Qo Kx hK hQo
        have d8 : (xs 8) = .bool true := hD 8 rfl
        clear hD
        clear hI
        simp only [patchS, Nat.reduceAdd, Nat.reduceEqDiff, ↓reduceIte] at hQo ⊢
        generalize xs 8 = y8 at *
        subst d8
        go_wp2
        exact hK.out _ _ ⟨rfl, hG, fun _ _ _ _ _ _ h => h⟩
      · intro kx xs wx hk hG hD hI Qo Kx hK hQo
        have d8 : (xs 8) = .bool true := hD 8 rfl
        clear hD
        clear hI
        simp only [patchS, Nat.reduceAdd, Nat.reduceEqDiff, ↓reduceIte] at hQo ⊢
        generalize xs 8 = y8 at *
        subst d8
        go_wp2
        exact hK.out _ _ ⟨rfl, hG, fun _ _ _ _ _ _ h => h⟩
      · intro kx xs wx hk hG hD hI Qo Kx hK hQo
        have d9 : (xs 9) = .agg #[.int .i64 D.w, .int .i64 D.h, .slice a11 Zn c11] := hD 9 rfl
        have d10 : (xs 10) = .int .i64 (X : Nat) := hD 10 rfl
        have d11 : (xs 11) = .int .i64 (Y : Nat) := hD 11 rfl
        have d12 : (xs 12) = .agg #[.int .i64 0, .int .i64 0] := hD 12 rfl
        have d8 : (xs 8) = .bool true := hD 8 rfl
        clear hD
        clear hI
        simp only [patchS, Nat.reduceAdd, Nat.reduceEqDiff, ↓reduceIte] at hQo ⊢
        generalize xs 9 = y9 at *
        generalize xs 10 = y10 at *
        generalize xs 11 = y11 at *
        generalize xs 12 = y12 at *
        generalize xs 8 = y8 at *
        subst d9
        subst d10
        subst d11
        subst d12
        subst d8
        go_wp2_with fail
        refine (HM1.out a11 c11 _ (s11.ext hG)).mono ?_
        rintro e wz ⟨az, cz, rfl, oz, ez⟩
        go_wp2
        exact hK.out _ _ ⟨⟨az, cz, rfl, Sl.of_owns oz⟩, hG.trans ez, fun i _ _ _ own ys h => Hext.out i own ys _ _ ez h⟩
      · intro kx xs wx hk hG hD hI Qo Kx hK hQo
        have d8 : (xs 8) = .bool true := hD 8 rfl
        clear hD
        clear hI
        simp only [patchS, Nat.reduceAdd, Nat.reduceEqDiff, ↓reduceIte] at hQo ⊢
        generalize xs 8 = y8 at *
        subst d8
        obtain ⟨k0, k1, k2⟩ := PBx.cells (L11.e hG).b1
        go_wp2
        exact hK.out _ _ ⟨rfl, hG, fun _ _ _ _ _ _ h => h⟩
      · intro kx xs wx hk hG hD hI Qo Kx hK hQo
        have d8 : (xs 8) = .bool true := hD 8 rfl
        clear hD
        clear hI
        simp only [patchS, Nat.reduceAdd, Nat.reduceEqDiff, ↓reduceIte] at hQo ⊢
        generalize xs 8 = y8 at *
        subst d8
        go_wp2
        exact hK.out _ _ ⟨rfl, hG, fun _ _ _ _ _ _ h => h⟩
      · intro kx xs wx hk hG hD hI Qo Kx hK hQo
        have d8 : (xs 8) = .bool true := hD 8 rfl
        clear hD
        clear hI
        simp only [patchS, Nat.reduceAdd, Nat.reduceEqDiff, ↓reduceIte] at hQo ⊢
        generalize xs 8 = y8 at *
        subst d8
        go_wp2
        exact hK.out _ _ ⟨rfl, hG, fun _ _ _ _ _ _ h => h⟩
      · intro kx xs wx hk hG hD hI Qo Kx hK hQo
        have d8 : (xs 8) = .bool true := hD 8 rfl
        clear hD
        clear hI
        simp only [patchS, Nat.reduceAdd, Nat.reduceEqDiff, ↓reduceIte] at hQo ⊢
        generalize xs 8 = y8 at *
        subst d8
        go_wp2
        exact hK.out _ _ ⟨rfl, hG, fun _ _ _ _ _ _ h => h⟩
      · intro kx xs wx hk hG hD hI Qo Kx hK hQo
        have d14 : (xs 14) = .agg #[.int .i64 p.w, .int .i64 p.h, .slice a n c] := hD 14 rfl
        have d15 : (xs 15) = .int .i64 (X : Nat) := hD 15 rfl
        have d16 : (xs 16) = .int .i64 (Y : Nat) := hD 16 rfl
        have d17 : (xs 17) = .agg #[.int .i64 0, .int .i64 0] := hD 17 rfl
        have d8 : (xs 8) = .bool true := hD 8 rfl
        clear hD
        clear hI
        simp only [patchS, Nat.reduceAdd, Nat.reduceEqDiff, ↓reduceIte] at hQo ⊢
        generalize xs 14 = y14 at *
        generalize xs 15 = y15 at *
        generalize xs 16 = y16 at *
        generalize xs 17 = y17 at *
        generalize xs 8 = y8 at *
        subst d14
        subst d15
        subst d16
        subst d17
        subst d8
        go_wp2_with fail
        refine (HM2.out _ ((L11.e hG).s1)).mono ?_
        rintro e wz ⟨az, cz, rfl, oz, ez⟩
        go_wp2
        exact hK.out _ _ ⟨⟨az, cz, rfl, Sl.of_owns oz⟩, hG.trans ez, fun i _ _ _ own ys h => Hext.out i own ys _ _ ez h⟩
      · intro kx xs wx hk hG hD hI Qo Kx hK hQo
        have d13 : ∃ (a7 : Option Addr) (c7 : Nat), (xs 13) = .slice a7 64 c7 ∧ Sl wx a7 64 (B.map (Value.int .i64)) := hD 13 rfl
        have d18 : ∃ (a7 : Option Addr) (c7 : Nat), (xs 18) = .slice a7 64 c7 ∧ Sl wx a7 64 (B.map (Value.int .i64)) := hD 18 rfl
        have d8 : (xs 8) = .bool true := hD 8 rfl
        clear hD
        clear hI
        simp only [patchS, Nat.reduceAdd, Nat.reduceEqDiff, ↓reduceIte] at hQo ⊢
        generalize xs 13 = y13 at *
        generalize xs 18 = y18 at *
        generalize xs 8 = y8 at *
        obtain ⟨a13, c13, rfl, o13⟩ := d13
        obtain ⟨a18, c18, rfl, o18⟩ := d18
        subst d8
        go_wp2_with fail
        refine (sameInts_same a13 a18 c13 c18 64 B _ (by omega) o13 o18).mono ?_
        rintro e wz ⟨rfl, ez⟩
        go_wp2
        exact hK.out _ _ ⟨rfl, hG.trans ez, fun i _ _ _ own ys h => Hext.out i own ys _ _ ez h⟩
      · intro kx xs wx hk hG hD hI Qo Kx hK hQo
        have d8 : (xs 8) = .bool true := hD 8 rfl
        have d19 : (xs 19) = .bool true := hD 19 rfl
        clear hD
        clear hI
        simp only [patchS, Nat.reduceAdd, Nat.reduceEqDiff, ↓reduceIte] at hQo ⊢
        generalize xs 8 = y8 at *
        generalize xs 19 = y19 at *
        subst d8
        subst d19
        go_wp2
        exact hK.out _ _ ⟨rfl, hG, fun _ _ _ _ _ _ h => h⟩
      · intro kx xs wx hk hG hD hI Qo Kx hK hQo
        have d20 : (xs 20) = .bool true := hD 20 rfl
        clear hD
        clear hI
        simp only [patchS, Nat.reduceAdd, Nat.reduceEqDiff, ↓reduceIte] at hQo ⊢
        generalize xs 20 = y20 at *
        subst d20
        go_wp2
        exact hK.out _ _ ⟨rfl, hG, fun _ _ _ _ _ _ h => h⟩
    clear Hext
    intro xs wx hV hG
    have d0 : (xs 0) = .agg (ic R.zs) := hV 0 (by decide)
    have d1 : (xs 1) = .bool true := hV 1 (by decide)
    have d2 : (xs 2) = .bool true := hV 2 (by decide)
    have d3 : (xs 3) = .pointer (some ⟨u, 1, none⟩) := hV 3 (by decide)
    have d4 : (xs 4) = .agg #[.int .i64 vx, .int .i64 vy] := hV 4 (by decide)
    have d5 : (xs 5) = .agg #[.int .i64 vx, .int .i64 vy] := hV 5 (by decide)
    have d6 : (xs 6) = .bool true := hV 6 (by decide)
    have d7 : (xs 7) = .bool true := hV 7 (by decide)
    have d8 : (xs 8) = .bool true := hV 8 (by decide)
    have d9 : (xs 9) = .agg #[.int .i64 D.w, .int .i64 D.h, .slice a11 Zn c11] := hV 9 (by decide)
    have d10 : (xs 10) = .int .i64 (X : Nat) := hV 10 (by decide)
    have d11 : (xs 11) = .int .i64 (Y : Nat) := hV 11 (by decide)
    have d12 : (xs 12) = .agg #[.int .i64 0, .int .i64 0] := hV 12 (by decide)
    have d13 : ∃ (a7 : Option Addr) (c7 : Nat), (xs 13) = .slice a7 64 c7 ∧ Sl wx a7 64 (B.map (Value.int .i64)) := hV 13 (by decide)
    have d14 : (xs 14) = .agg #[.int .i64 p.w, .int .i64 p.h, .slice a n c] := hV 14 (by decide)
    have d15 : (xs 15) = .int .i64 (X : Nat) := hV 15 (by decide)
    have d16 : (xs 16) = .int .i64 (Y : Nat) := hV 16 (by decide)
    have d17 : (xs 17) = .agg #[.int .i64 0, .int .i64 0] := hV 17 (by decide)
    have d18 : ∃ (a7 : Option Addr) (c7 : Nat), (xs 18) = .slice a7 64 c7 ∧ Sl wx a7 64 (B.map (Value.int .i64)) := hV 18 (by decide)
    have d19 : (xs 19) = .bool true := hV 19 (by decide)
    have d20 : (xs 20) = .bool true := hV 20 (by decide)
    have d21 : (xs 21) = .bool true := hV 21 (by decide)
    clear hV
    simp only [patchS, Nat.reduceAdd, Nat.reduceEqDiff, ↓reduceIte]
    generalize xs 0 = y0 at *
    generalize xs 1 = y1 at *
    generalize xs 2 = y2 at *
    generalize xs 3 = y3 at *
    generalize xs 4 = y4 at *
    generalize xs 5 = y5 at *
    generalize xs 6 = y6 at *
    generalize xs 7 = y7 at *
    generalize xs 8 = y8 at *
    generalize xs 9 = y9 at *
    generalize xs 10 = y10 at *
    generalize xs 11 = y11 at *
    generalize xs 12 = y12 at *
    generalize xs 13 = y13 at *
    generalize xs 14 = y14 at *
    generalize xs 15 = y15 at *
    generalize xs 16 = y16 at *
    generalize xs 17 = y17 at *
    generalize xs 18 = y18 at *
    generalize xs 19 = y19 at *
    generalize xs 20 = y20 at *
    generalize xs 21 = y21 at *
    replace hG : Ext w11 wx := hG
    clear d0 d1 d2 d3 d4 d5 d6 d7 d8 d9 d10 d11 d12 d13 d14 d15 d16 d17 d18 d19 d20
    subst d21
    go_wp2
    go_ret
    exact ⟨rfl, L11.ex.trans hG⟩
  · have hx := HR.out
    rw [interP_no ho] at hx
    subst hx
    have HZ := Lib.hid (show mac0.zs = zl 71 from mac0_zU)
    clear ho HI HI0 HS HR
    have r8 := L7.ib
    go_wp2_with (first | (refine wpList_iload 34 _ rfl rfl r8 0 71 rfl _ Tryd.underlying34 rfl size_Macro (by rw [Hrl.out]; omega) _ (by rw [sub_all _ _ Hrl.out]) ?_) | (refine wpList_seql 34 _ _ _ rfl rfl _ _ rfl rfl mac0.zs (zl 71) rfl zeroc_M2 Tryd.underlying34 hpM (eqM Tryd.underlying34) Hrl.out (zl_len 71) hmM true (by rw [HZ.out]; simp) ?_))
    refine (alive_any _).mono ?_
    rintro e w9 ⟨rfl, e9⟩
    go_wp2
    go_ret
    exact ⟨rfl, L7.ex.trans e9⟩
end Go.Proofs.YtbnhaegidfbgbaaDoor
namespace Go.Proofs.YtbnhaegidfbgbaaDoor
open Go.RowKit Go.ChangeShapes Go.WideShapes

section
variable {H : Type} {enc : TypeId × Value → H} {P : Program} {w : World}

/-- The cells cs read as a value of type t. -/
def Cells (enc : TypeId × Value → H) (P : Program) (w : World) (t : TypeId) (cs : List Value) : Prop :=
  ∃ fuel x, DataW.trod enc P w 0 (fun _ => true) true fuel t cs = some x

theorem Cells.of_trod {t : TypeId} {v : Value} {d : DataW H} {ps : List MemPlace} (h : DataW.Trod enc P w 0 (fun _ => true) true t v d ps) : Cells enc P w t v.cells.toList := by
  obtain ⟨fuel, hf⟩ := h
  exact ⟨fuel, _, hf⟩

theorem Cells.int {t : TypeId} {k : IntKind} {cs : List Value} (h : Cells enc P w t cs) (ht : P.underlying t = some (.int k)) : ∃ n, cs = [.int k n] ∧ (Lit.int k n).wf = true := by
  obtain ⟨fuel, x, hf⟩ := h
  obtain ⟨n, h1, -, h2⟩ := DataW.trod_int ht hf
  exact ⟨n, h1, h2⟩
theorem Cells.bool {t : TypeId} {cs : List Value} (h : Cells enc P w t cs) (ht : P.underlying t = some .bool) : ∃ b, cs = [.bool b] := by
  obtain ⟨fuel, x, hf⟩ := h
  obtain ⟨n, h1, -⟩ := DataW.trod_bool ht hf
  exact ⟨n, h1⟩

theorem add_add (a : Addr) (i j : Nat) : a.add (i + j) = (a.add i).add j := by
  unfold Addr.add
  by_cases h1 : i = 0
  · subst h1; simp
  · by_cases h2 : j = 0
    · subst h2; simp
    · simp [h1, h2, Nat.add_assoc]
/-- A slice whose elements have c cells each: cell j of element i. -/
theorem Cells.slice {t e : TypeId} {c : Nat} {cs : List Value} (h : Cells enc P w t cs) (ht : P.underlying t = some (.slice e)) (hc : P.cellsOf e = c) :
    ∃ a n cap, cs = [.slice a n cap] ∧ (n ≤ cap ∧ cap ≤ maxLen) ∧ ∀ i, i < n → ∃ x es, a = some x ∧ es.length = c ∧ (∀ j, j < c → w.cell? (x.add (i * c + j)) = es[j]?) ∧ Cells enc P w e es := by
  subst hc
  obtain ⟨fuel, x, hf⟩ := h
  rcases Deep.open_slice ht hf with ⟨rfl, -⟩ | ⟨a, len, cap, m, n, D, Pl, rfl, -, hl, hm, hmm, -, hx⟩
  · exact ⟨none, 0, 0, rfl, ⟨by omega, by simp⟩, fun i hi => by omega⟩
  · refine ⟨some a, len, cap, rfl, ⟨hl, hm⟩, fun i hi => ?_⟩
    obtain ⟨cs', h1, h2⟩ := hx i (by simp at hmm; omega)
    obtain ⟨-, hlen, hcell⟩ := World.cells?_some h1
    refine ⟨a, cs', rfl, hlen, fun j hj => ?_, ⟨n, _, h2⟩⟩
    have := hcell j hj
    rw [← this, add_add]

theorem Cells.struct {t : TypeId} {fs : Array Field} {cs : List Value} (h : Cells enc P w t cs) (ht : P.underlying t = some (.struct fs)) :
    cs.length = P.cellsOf t ∧ ∀ (i : Nat) (f : Field), fs[i]? = some f → Cells enc P w f.type ((cs.drop f.offset).take (P.cellsOf f.type)) := by
  obtain ⟨fuel, x, hf⟩ := h
  obtain ⟨xs, n, -, -, h1, h2, h3⟩ := DataW.trod_struct ht hf
  refine ⟨h1, fun i f hi => ?_⟩
  have h4 := h3 i f hi
  have hl : i < xs.length := by
    rw [h2]
    exact (Array.getElem?_eq_some_iff.1 hi).1
  exact ⟨n, xs[i], by rw [h4]; simp [hl]⟩

theorem Cells.array {t e : TypeId} {n : Nat} {cs : List Value} (h : Cells enc P w t cs) (ht : P.underlying t = some (.array n e)) :
    cs.length = P.cellsOf t ∧ ∀ i, i < n → Cells enc P w e ((cs.drop (i * P.cellsOf e)).take (P.cellsOf e)) := by
  obtain ⟨fuel, x, hf⟩ := h
  cases fuel with
  | zero => simp [DataW.trod] at hf
  | succ m =>
    unfold DataW.trod at hf
    rw [ht] at hf
    split at hf <;> simp_all
    obtain ⟨hl, xs, hp, hd⟩ := hf
    intro i hi
    have h4 := mapM_some_get hp i i (by simp [hi])
    have hl : i < xs.length := by rw [mapM_some_length hp]; simpa using hi
    exact ⟨m, xs[i], by rw [h4]; simp [hl]⟩

theorem Sl.of_add {a : Addr} {n : Nat} {xs : List Value} (hl : xs.length = n) (h : ∀ i, i < n → w.cell? (a.add i) = some (xs.getD i undef)) : Sl w (some a) n xs := by
  refine ⟨hl, fun i hi => ?_⟩
  obtain ⟨b, off, spot⟩ := a
  have hc := h 0 (by omega)
  have hs : spot = none := by simpa [Addr.add] using World.cell?_spot hc
  subst hs
  exact ⟨b, off, rfl, by rw [← h i hi, Addr.add_lit]⟩

/-- A list out of a choice for each index. -/
theorem list_of {α : Type} (n : Nat) (p : Nat → α → Prop) (h : ∀ i, i < n → ∃ y, p i y) : ∃ ys : List α, ys.length = n ∧ ∀ i (hi : i < ys.length), p i ys[i] := by
  induction n with
  | zero => exact ⟨[], rfl, fun i hi => by simp at hi⟩
  | succ n ih =>
    obtain ⟨ys, hl, hy⟩ := ih (fun i hi => h i (by omega))
    obtain ⟨y, hp⟩ := h n (by omega)
    refine ⟨ys ++ [y], by simp [hl], fun i hi => ?_⟩
    by_cases h1 : i < ys.length
    · rw [List.getElem_append_left h1]; exact hy i h1
    · have : i = n := by simp at hi; omega
      subst this
      rw [List.getElem_append_right (by omega)]
      simpa [hl] using hp

/-- A slice of one-cell elements. -/
theorem Cells.slice1 {t e : TypeId} {cs : List Value} (h : Cells enc P w t cs) (ht : P.underlying t = some (.slice e)) (hc : P.cellsOf e = 1) :
    ∃ a n cap xs, cs = [.slice a n cap] ∧ (n ≤ cap ∧ cap ≤ maxLen) ∧ Sl w a n xs ∧ ∀ x ∈ xs, Cells enc P w e [x] := by
  obtain ⟨a, n, cap, rfl, hn, hx⟩ := h.slice ht hc
  obtain ⟨ys, hl, hy⟩ := list_of (α := Value) n (fun i y => (∃ x, a = some x ∧ w.cell? (x.add i) = some y) ∧ Cells enc P w e [y]) (fun i hi => by
    obtain ⟨x, es, ha, h1, h2, h3⟩ := hx i hi
    match es, h1 with
    | [y], _ => exact ⟨y, ⟨x, ha, by simpa using h2 0 (by omega)⟩, h3⟩)
  refine ⟨a, n, cap, ys, rfl, hn, ?_, ?_⟩
  · cases a with
    | none =>
      refine ⟨hl, fun i hi => ?_⟩
      obtain ⟨⟨x, hx, -⟩, -⟩ := hy i (by omega)
      simp at hx
    | some a =>
      refine Sl.of_add hl fun i hi => ?_
      obtain ⟨⟨x, hx, hc⟩, -⟩ := hy i (by omega)
      simp only [Option.some.injEq] at hx
      subst hx
      rw [hc]
      simp [show i < ys.length by omega]
  · intro x hx
    obtain ⟨i, hi, rfl⟩ := List.getElem_of_mem hx
    exact (hy i hi).2

theorem map_of {α : Type} (C : α → Value) (p : α → Prop) (xs : List Value) (h : ∀ x ∈ xs, ∃ z, x = C z ∧ p z) : ∃ zs : List α, xs = zs.map C ∧ ∀ z ∈ zs, p z := by
  induction xs with
  | nil => exact ⟨[], rfl, fun z hz => by simp at hz⟩
  | cons x xs ih =>
    obtain ⟨zs, rfl, hz⟩ := ih (fun y hy => h y (by simp [hy]))
    obtain ⟨z, rfl, hp⟩ := h x (by simp)
    refine ⟨z :: zs, rfl, fun y hy => ?_⟩
    rcases List.mem_cons.1 hy with rfl | hy
    · exact hp
    · exact hz y hy

theorem Cells.slice_int {t e : TypeId} {k : IntKind} {cs : List Value} (h : Cells enc P w t cs) (ht : P.underlying t = some (.slice e)) (he : P.underlying e = some (.int k)) (hc : P.cellsOf e = 1) :
    ∃ (a : Option Addr) (n cap : Nat) (zs : List Int), cs = [.slice a n cap] ∧ (n ≤ cap ∧ cap ≤ maxLen) ∧ Sl w a n (zs.map (Value.int k)) ∧ ∀ z ∈ zs, (Lit.int k z).wf = true := by
  obtain ⟨a, n, cap, xs, rfl, hn, s, hx⟩ := h.slice1 ht hc
  obtain ⟨zs, rfl, hz⟩ := map_of (Value.int k) (fun z => (Lit.int k z).wf = true) xs (fun x hx' => by
    obtain ⟨z, h1, h2⟩ := (hx x hx').int he
    exact ⟨z, by simpa using h1, h2⟩)
  exact ⟨a, n, cap, zs, rfl, hn, s, hz⟩
theorem Cells.slice_bool {t e : TypeId} {cs : List Value} (h : Cells enc P w t cs) (ht : P.underlying t = some (.slice e)) (he : P.underlying e = some .bool) (hc : P.cellsOf e = 1) :
    ∃ (a : Option Addr) (n cap : Nat) (zs : List Bool), cs = [.slice a n cap] ∧ (n ≤ cap ∧ cap ≤ maxLen) ∧ Sl w a n (zs.map Value.bool) := by
  obtain ⟨a, n, cap, xs, rfl, hn, s, hx⟩ := h.slice1 ht hc
  obtain ⟨zs, rfl, -⟩ := map_of Value.bool (fun _ => True) xs (fun x hx' => by
    obtain ⟨z, h1⟩ := (hx x hx').bool he
    exact ⟨z, by simpa using h1, trivial⟩)
  exact ⟨a, n, cap, zs, rfl, hn, s⟩

theorem open_sl_int {t e : TypeId} {k : IntKind} {v : Value} {d : DataW H} {ps : List MemPlace} (ht : P.underlying t = some (.slice e)) (he : P.underlying e = some (.int k)) (hc : P.cellsOf e = 1)
    (hv : ∃ a len cap, v = .slice a len cap) (h : DataW.Trod enc P w 0 (fun _ => true) true t v d ps) :
    ∃ (a : Option Addr) (n c : Nat) (zs : List Int), v = .slice a n c ∧ Sl w a n (zs.map (Value.int k)) ∧ (n ≤ c ∧ c ≤ maxLen) ∧ ∀ z ∈ zs, (Lit.int k z).wf = true := by
  obtain ⟨a, n, c, rfl⟩ := hv
  obtain ⟨a', n', c', zs, h1, h2, h3, h4⟩ := (Cells.of_trod h).slice_int ht he hc
  simp [Value.cells] at h1
  obtain ⟨rfl, rfl, rfl⟩ := h1
  exact ⟨a, n, c, zs, rfl, h3, h2, h4⟩
theorem open_sl_bool {t e : TypeId} {v : Value} {d : DataW H} {ps : List MemPlace} (ht : P.underlying t = some (.slice e)) (he : P.underlying e = some .bool) (hc : P.cellsOf e = 1)
    (hv : ∃ a len cap, v = .slice a len cap) (h : DataW.Trod enc P w 0 (fun _ => true) true t v d ps) :
    ∃ (a : Option Addr) (n c : Nat) (zs : List Bool), v = .slice a n c ∧ Sl w a n (zs.map Value.bool) ∧ (n ≤ c ∧ c ≤ maxLen) := by
  obtain ⟨a, n, c, rfl⟩ := hv
  obtain ⟨a', n', c', zs, h1, h2, h3⟩ := (Cells.of_trod h).slice_bool ht he hc
  simp [Value.cells] at h1
  obtain ⟨rfl, rfl, rfl⟩ := h1
  exact ⟨a, n, c, zs, rfl, h3, h2⟩
end
end Go.Proofs.YtbnhaegidfbgbaaDoor
