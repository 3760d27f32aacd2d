/- Copies of coded pictures: the program's. -/
import Derived.Test.YtmokncpppmchfaaDoorJ3
import Derived.Test.YtmokncpppmchfaaDoorKeep
import Derived.Test.YtmokncpppmchfaaDoorApp
import Derived.Test.YtmokncpppmchfaaDoorRgm
import Derived.Deep.Cut
namespace Go.Proofs.YtmokncpppmchfaaDoor
open Go.RowKit
set_option maxHeartbeats 1000000
/-- The list of strings has grown, its first k stay. -/
theorem SSk.again {w w' : World} {lo hi n k : Nat} {v : Value} {f : Nat → List Int} {cs : List Value} (h : SSk w lo hi v n k f cs) (g : w.grownBy w' v.ownBlock) (own : w'.ownsRow lo 30 1 v n cs) : SSk w' lo hi v n k f cs := by
  obtain ⟨bs, h1, h2, h3, h4, h5⟩ := h
  refine ⟨bs, own, h2, h3, h4, fun i hi2 => ?_⟩
  obtain ⟨a', c', k1, k2, k3⟩ := h5 i hi2
  exact ⟨a', c', k1, k2.kept g (own_ne2 k2 h1 (by decide)), k3⟩
theorem one_u8j (xs : List Int) : ∀ u ∈ xs.map (Value.int .u8), u.oneCell' = true := by
  intro u hu
  simp at hu
  obtain ⟨z, -, rfl⟩ := hu
  rfl
theorem ext_noneJ {w w' : World} {row : Option Nat} (g : w.grownBy w' row) (h : row = none) : Ext w w' := by
  subst h; exact Ext.grown (Below.refl _ _) g (by simp)
/-- The rows of byte strings that do not hold the list are kept. -/
theorem u8_kept {w w' : World} {lo n b m : Nat} {v u : Value} {cs xs : List Value} (o : w.ownsRow lo 30 1 v n cs) (g : w.grownBy w' v.ownBlock) (h : w.ownsRow b 5 1 u m xs) : w'.ownsRow b 5 1 u m xs := h.kept g (own_ne2 h o (by decide))
theorem own_ne_blk' {w : World} {base e size n q : Nat} {v : Value} {xs : List Value} {arr : Array Value} {T : TypeId} (h : w.ownsRow base e size v n xs) (hq : w.heap[q]? = some (.cells arr T (0, 0))) (hne : e ≠ T) : v.ownBlock ≠ some q := by
  rcases own_ne_blk h hq hne with h | h
  · rw [h]; simp
  · exact h
theorem own_hi {w w' : World} {base e s n : Nat} {v : Value} {xs : List Value} {row : Option Nat} (h : w.ownsRow base e s v n xs) (g : w.grownBy w' row) (hb : ∀ q, row = some q → q < base) : w'.ownsRow base e s v n xs := by
  refine h.kept g ?_
  cases hv : v.ownBlock with
  | none => exact .inl rfl
  | some k => right; intro e; have h1 := owns_ge h k hv; have h2 := hb k e.symm; omega
set_option maxRecDepth 100000 in
theorem clone_any (x y q : Int) (ib : Bool) (a : Option Addr) (n c : Nat) (f : Nat → List Int) (w : World) (hn : n ≤ 1048576) (hL : ∀ i, i < n → (f i).length ≤ 1048576) (r : SS w a n (lst n f)) :
    Calls Tryd.prog 23 #[.agg #[.int .i64 x, .int .i64 y, .bool ib, .int .i64 q, .slice a n c]] w fun e w' => ∃ a' c' ss, e = .returned (.agg #[.int .i64 x, .int .i64 y, .bool ib, .int .i64 q, .slice a' n c']) ∧ SSg w' w.heap.size w'.heap.size (.slice a' n c') n f ss ∧ Ext w w' := by
  have HL := Lib.hid hL
  clear hL
  have p0 := blk_alloc (blk_new w (.cells #[.int .i64 x, .int .i64 y, .bool ib, .int .i64 q, .slice a n c] 38)) (.cells #[.int .i64 0, .int .i64 0, .bool false, .int .i64 0, .slice none 0 0] 38)
  have r0 := blk_new (w.alloc (.cells #[.int .i64 x, .int .i64 y, .bool ib, .int .i64 q, .slice a n c] 38)) (.cells #[.int .i64 0, .int .i64 0, .bool false, .int .i64 0, .slice none 0 0] 38)
  have E0 := (Ext.alloc w (.cells #[.int .i64 x, .int .i64 y, .bool ib, .int .i64 q, .slice a n c] 38)).trans (Ext.alloc _ (.cells #[.int .i64 0, .int .i64 0, .bool false, .int .i64 0, .slice none 0 0] 38))
  have hs : ((w.alloc (.cells #[.int .i64 x, .int .i64 y, .bool ib, .int .i64 q, .slice a n c] 38)).alloc (.cells #[.int .i64 0, .int .i64 0, .bool false, .int .i64 0, .slice none 0 0] 38)).heap.size = w.heap.size + 1 + 1 := by simp
  simp only [World.size_alloc] at r0
  go_enter Tryd.func23, Tryd.ntmps23
  go_upto_region 1 with fail
  try simp only [World.size_alloc]
  generalize (w.alloc (.cells #[.int .i64 x, .int .i64 y, .bool ib, .int .i64 q, .slice a n c] 38)).alloc (.cells #[.int .i64 0, .int .i64 0, .bool false, .int .i64 0, .slice none 0 0] 38) = w0 at *
  obtain ⟨B, hB⟩ : ∃ B, B = w.heap.size := ⟨_, rfl⟩
  rw [← hB] at p0 r0 hs ⊢
  have HB := Lib.hid hB
  have hsz : B + 2 ≤ w0.heap.size := by omega
  have hwB : w.heap.size ≤ B := by omega
  have p2 : (w0.setCell ⟨B, 4, none⟩ (.slice none 0 0)).heap[B]? = some (.cells #[.int .i64 x, .int .i64 y, .bool ib, .int .i64 q, .slice none 0 0] 38 (0, 0)) := by
    have h := heap_setCell_same w0 B 4 _ _ (.slice none 0 0) p0
    simpa using h
  have r2 : (w0.setCell ⟨B, 4, none⟩ (.slice none 0 0)).heap[B + 1]? = _ := blk_set_other r0 (by omega)
  have E2 : Ext w (w0.setCell ⟨B, 4, none⟩ (.slice none 0 0)) := Ext.grown E0 (gs1 _ _ _ _) (fun k e => by cases e; omega)
  have hsz2 : B + 2 ≤ (w0.setCell ⟨B, 4, none⟩ (.slice none 0 0)).heap.size := by simp; omega
  have Hst := Lib.hid (⟨p2, r2, E2, hsz2⟩ : _ ∧ _ ∧ _ ∧ _)
  clear hB r2 E2 hsz2 p2 E0
  obtain ⟨m0, m1, m2, m3, m4, m5⟩ := bx5 p0
  obtain ⟨f0, f1, f2, f3, f4⟩ := fz5 p0
  go_wp2_with fail
  go_loopw [11] (fun ix wr => ∃ (k : Nat) (vl : Value) (cs : List Value), k ≤ n ∧ ix = .int .i64 k ∧ Ext w wr ∧ B + 2 ≤ wr.heap.size ∧ wr.heap[B]? = some (.cells #[.int .i64 x, .int .i64 y, .bool ib, .int .i64 q, vl] 38 (0, 0)) ∧ wr.heap[B + 1]? = some (.cells #[.int .i64 0, .int .i64 0, .bool false, .int .i64 0, .slice none 0 0] 38 (0, 0)) ∧ SSk wr (B + 2) wr.heap.size vl k k f cs) (fun ix _ => n - (intOf ix).toNat)
  case atStart =>
    obtain ⟨u1, u2, u3, u4⟩ := Hst.out
    exact ⟨0, _, [], by omega, rfl, u3, u4, u1, u2, SSk.nil _ _ _ _ u4⟩
  case round =>
    clear m0 m1 m2 m3 m4 m5 f0 f1 f2 f3 f4 p0 r0 hs hsz Hst
    obtain ⟨k, vl, cs, hk, rfl, E2, hsz, p2, r2, S2⟩ := hrel
    by_cases hlt : k < n
    · obtain ⟨b1, o1, rfl, a2, c2, h1', h2, h3, h4⟩ := r.at hlt
      have h1 := cell_ext E2 h1'
      clear h1'
      have hfl := HL.out k hlt
      obtain ⟨m, hm⟩ : ∃ m, m = (f k).length := ⟨_, rfl⟩
      obtain ⟨zs, hxs⟩ : ∃ zs, zs = f k := ⟨_, rfl⟩
      rw [← hm] at h1 h2 h3 hfl
      rw [← hxs] at h2
      have Hm := Lib.hid hm
      have Hxs := Lib.hid hxs
      clear hm hxs
      obtain ⟨al, cl, rfl⟩ := owns_form S2.own
      obtain ⟨HI, hHI⟩ : ∃ HI, HI = wr.heap.size := ⟨_, rfl⟩
      rw [← hHI] at hsz S2
      have hHI2 : HI ≤ wr.heap.size := by omega
      have hvl : ∀ q, (Value.slice al k cl).ownBlock = some q → q < HI := fun q hq => by rw [hHI]; exact (S2.own.lt q hq).2
      clear hHI
      have Hsl := Lib.hid (fun (wz : World) (e : Ext w wz) => h2.ext e)
      go_wp2_with fail
      have hext : Stab (fun wa wb => Ext wa wb) (fun i own ys wx => match i with | 0 => own = .pointer (some ⟨B, 4, none⟩) | 1 => own = .slice al k cl | 2 => own = .slice a2 m c2 | 3 => ∃ (a1 : Option Addr) (c1 : Nat), own = .slice a1 m c1 ∧ wx.ownsRow HI 5 1 (.slice a1 m c1) m (zs.map (Value.int .u8)) | 4 => ∃ (p : Nat) (a1 : Option Addr) (c1 : Nat), own = .slice (some ⟨p, 0, none⟩) 1 1 ∧ wx.ownsRow HI 30 1 (.slice (some ⟨p, 0, none⟩) 1 1) 1 [.slice a1 m c1] ∧ wx.ownsRow HI 5 1 (.slice a1 m c1) m (zs.map (Value.int .u8)) | 5 => ∃ (an : Option Addr) (cc : Nat) (cn : List Value), own = .slice an (k + 1) cc ∧ SSk wx (B + 2) wx.heap.size (.slice an (k + 1) cc) (k + 1) (k + 1) f cn | 6 => own = .pointer (some ⟨B, 4, none⟩) | 7 => ∃ (an : Option Addr) (cc : Nat) (cn : List Value), wx.heap[B]? = some (.cells #[.int .i64 x, .int .i64 y, .bool ib, .int .i64 q, .slice an (k + 1) cc] 38 (0, 0)) ∧ SSk wx (B + 2) wx.heap.size (.slice an (k + 1) cc) (k + 1) (k + 1) f cn | _ => True) := by
        intro i own ys wa wb e h
        match i, h with
        | 0, h | 1, h | 2, h | 6, h => exact h
        | 3, h => obtain ⟨a9, c9, h1, h2⟩ := h; exact ⟨a9, c9, h1, owns_ext h2 e⟩
        | 4, h => obtain ⟨p9, a9, c9, h1, h2, h3⟩ := h; exact ⟨p9, a9, c9, h1, owns_ext h2 e, owns_ext h3 e⟩
        | 5, h => obtain ⟨a9, d9, c9, h1, h2⟩ := h; exact ⟨a9, d9, c9, h1, (h2.ext e).up e.size⟩
        | 7, h => obtain ⟨a9, d9, c9, h1, h2⟩ := h; exact ⟨a9, d9, c9, e.blk h1, (h2.ext e).up e.size⟩
        | _ + 8, _ => trivial
      have Hext := Lib.hid hext
      clear hext
      refine wp_region_invL (by kernel_rfl) [(15, 0), (16, 1), (17, 2), (18, 3), (19, 4), (20, 5), (21, 6)] [[], [0], [], [2], [2, 3], [0, 1, 2, 3, 4], [0, 1, 2, 3, 4, 5], [0, 1, 2, 3, 4, 5, 6]] (fun i own ys wx => match i with | 0 => own = .pointer (some ⟨B, 4, none⟩) | 1 => own = .slice al k cl | 2 => own = .slice a2 m c2 | 3 => ∃ (a1 : Option Addr) (c1 : Nat), own = .slice a1 m c1 ∧ wx.ownsRow HI 5 1 (.slice a1 m c1) m (zs.map (Value.int .u8)) | 4 => ∃ (p : Nat) (a1 : Option Addr) (c1 : Nat), own = .slice (some ⟨p, 0, none⟩) 1 1 ∧ wx.ownsRow HI 30 1 (.slice (some ⟨p, 0, none⟩) 1 1) 1 [.slice a1 m c1] ∧ wx.ownsRow HI 5 1 (.slice a1 m c1) m (zs.map (Value.int .u8)) | 5 => ∃ (an : Option Addr) (cc : Nat) (cn : List Value), own = .slice an (k + 1) cc ∧ SSk wx (B + 2) wx.heap.size (.slice an (k + 1) cc) (k + 1) (k + 1) f cn | 6 => own = .pointer (some ⟨B, 4, none⟩) | 7 => ∃ (an : Option Addr) (cc : Nat) (cn : List Value), wx.heap[B]? = some (.cells #[.int .i64 x, .int .i64 y, .bool ib, .int .i64 q, .slice an (k + 1) cc] 38 (0, 0)) ∧ SSk wx (B + 2) wx.heap.size (.slice an (k + 1) cc) (k + 1) (k + 1) f cn | _ => True) (fun Lx wx => (Ext w wx ∧ Ext wr wr ∧ HI ≤ wx.heap.size) ∧ (∃ z, wx.heap[B]? = some (.cells #[.int .i64 x, .int .i64 y, .bool ib, .int .i64 q, z] 38 (0, 0)) ∧ (Lx 7 = false → z = .slice al k cl)) ∧ wx.heap[B + 1]? = some (.cells #[.int .i64 0, .int .i64 0, .bool false, .int .i64 0, .slice none 0 0] 38 (0, 0)) ∧ SSk wx (B + 2) HI (.slice al k cl) k k f cs ∧ Sl wx a2 m (zs.map (Value.int .u8))) (by kernel_rfl) (by kernel_rfl) (by kernel_rfl) ?g0_r1 ?gop_r1 ?gend_r1
      case g0_r1 => exact ⟨⟨Ext.trans_drewN E2 1, Below.refl _ _, hHI2⟩, ⟨_, p2, fun _ => rfl⟩, r2, S2, h2.ext (Ext.trans_drewN E2 1)⟩
      case gop_r1 =>
        refine ⟨?_, ?o1, ?_, ?o3, ?o4, ?o5, ?_, ?o7, trivial⟩ <;> (intro Lx xs wx hG hl ha hb hD hI Qo Kx hK hQo; simp only [patchS, Nat.reduceAdd, Nat.reduceEqDiff, ↓reduceIte] at hQo ⊢)
        case o1 =>
          have l7 : Lx 7 = false := hb 7 rfl
          clear hl ha hb
          rw [ddq (hD 0 rfl)] at hQo ⊢
          clear hD hI
          obtain ⟨z, g1, g2⟩ := hG.2.1
          obtain rfl := g2 l7
          obtain ⟨-, k0, k1, k2, k3, k4⟩ := bx5 g1
          go_wp2
          exact hK.out _ _ ⟨rfl, hG, kkp⟩
        case o3 =>
          clear hl ha hb
          rw [ddq (hD 2 rfl)] at hQo ⊢
          clear hD hI
          refine wpList_apps _ (World.ownsRow_nil _ HI _ _) hG.1.2.2 rfl _ _ 30 rfl (.int .u8 0) 1 Tryd.underlying30 info_uint8 rfl rfl a2 m c2 _ rfl hG.2.2.2.2 (one_u8j zs) (by omega) (by omega) ?_
          intro v14 w14 own14 gr14
          rw [Nat.zero_add, List.nil_append] at own14
          obtain ⟨a14, c14, rfl⟩ := owns_form own14
          have e8 := ext_noneJ gr14 rfl
          obtain ⟨⟨g1, g0, g2⟩, ⟨z, g3, g4⟩, g5, g6, g7⟩ := hG
          exact hQo _ _ (hK.out _ _ ⟨⟨_, _, rfl, own14⟩, ⟨⟨g1.trans e8, g0, Nat.le_trans g2 e8.size⟩, ⟨z, e8.blk g3, g4⟩, e8.blk g5, g6.ext e8, g7.ext e8⟩, fun i _ _ _ own ys h => Hext.out i own ys _ _ e8 h⟩)
        case o4 =>
          clear hl ha hb
          have d3 : ∃ (a1 : Option Addr) (c1 : Nat), (xs 3) = .slice a1 m c1 ∧ wx.ownsRow HI 5 1 (.slice a1 m c1) m (zs.map (Value.int .u8)) := hD 3 rfl
          clear hD hI
          generalize xs 3 = y3 at *
          obtain ⟨a1, c1, rfl, o1⟩ := d3
          have e8 := Ext.alloc wx (.cells #[.slice a1 m c1] 30)
          have o9 := World.ownsRow_lit (base := HI) (e := 30) (size := 1) wx #[.slice a1 m c1] 1 hG.1.2.2 (by unfold maxLen; omega) rfl
          go_wp2
          obtain ⟨⟨g1, g0, g2⟩, ⟨z, g3, g4⟩, g5, g6, g7⟩ := hG
          exact hK.out _ _ ⟨⟨_, _, _, rfl, o9, owns_ext o1 e8⟩, ⟨⟨g1.trans e8, g0, Nat.le_trans g2 e8.size⟩, ⟨z, e8.blk g3, g4⟩, e8.blk g5, g6.ext e8, g7.ext e8⟩, fun i _ _ _ own ys h => Hext.out i own ys _ _ e8 h⟩
        case o5 =>
          have l7 : Lx 7 = false := hb 7 rfl
          clear hl ha hb
          rw [ddq (hD 1 rfl)] at hQo ⊢
          have d4 : ∃ (p : Nat) (a1 : Option Addr) (c1 : Nat), (xs 4) = .slice (some ⟨p, 0, none⟩) 1 1 ∧ wx.ownsRow HI 30 1 (.slice (some ⟨p, 0, none⟩) 1 1) 1 [.slice a1 m c1] ∧ wx.ownsRow HI 5 1 (.slice a1 m c1) m (zs.map (Value.int .u8)) := hD 4 rfl
          clear hD hI
          generalize xs 4 = y4 at *
          obtain ⟨p4, a4, c4, rfl, q4, o4⟩ := d4
          have o9 := hG.2.2.2.1.own
          refine wpList_appk _ rfl o9 (Nat.le_trans hsz hG.1.2.2) _ _ _ rfl (.slice none 0 0) 24 Tryd.underlying36 info_ByteS rfl (by decide) rfl ⟨p4, 0, none⟩ 1 1 _ rfl rfl (q4.cells rfl) (by intro u hu; simp at hu; subst hu; rfl) (by omega) (by omega) ?_
          intro v14 w14 own14 gr14 keep14
          obtain ⟨a14, c14, rfl⟩ := owns_form own14
          have hst : ∀ (wy : World), (∀ b' own n' xs', wx.ownsRow b' 5 1 own n' xs' → wy.ownsRow b' 5 1 own n' xs') ∧ (∀ e' own n' xs', wx.ownsRow HI e' 1 own n' xs' → wy.ownsRow HI e' 1 own n' xs') → Stbn 8 5 [[], [0], [], [2], [2, 3], [0, 1, 2, 3, 4], [0, 1, 2, 3, 4, 5], [0, 1, 2, 3, 4, 5, 6]] (fun i own ys wx => match i with | 0 => own = .pointer (some ⟨B, 4, none⟩) | 1 => own = .slice al k cl | 2 => own = .slice a2 m c2 | 3 => ∃ (a1 : Option Addr) (c1 : Nat), own = .slice a1 m c1 ∧ wx.ownsRow HI 5 1 (.slice a1 m c1) m (zs.map (Value.int .u8)) | 4 => ∃ (p : Nat) (a1 : Option Addr) (c1 : Nat), own = .slice (some ⟨p, 0, none⟩) 1 1 ∧ wx.ownsRow HI 30 1 (.slice (some ⟨p, 0, none⟩) 1 1) 1 [.slice a1 m c1] ∧ wx.ownsRow HI 5 1 (.slice a1 m c1) m (zs.map (Value.int .u8)) | 5 => ∃ (an : Option Addr) (cc : Nat) (cn : List Value), own = .slice an (k + 1) cc ∧ SSk wx (B + 2) wx.heap.size (.slice an (k + 1) cc) (k + 1) (k + 1) f cn | 6 => own = .pointer (some ⟨B, 4, none⟩) | 7 => ∃ (an : Option Addr) (cc : Nat) (cn : List Value), wx.heap[B]? = some (.cells #[.int .i64 x, .int .i64 y, .bool ib, .int .i64 q, .slice an (k + 1) cc] 38 (0, 0)) ∧ SSk wx (B + 2) wx.heap.size (.slice an (k + 1) cc) (k + 1) (k + 1) f cn | _ => True) wx wy := by
            intro wy hy ii hii hne hc own ys h
            match ii, h with
            | 0, h | 1, h | 2, h => exact h
            | 3, h => obtain ⟨a9, c9, h1, h2⟩ := h; exact ⟨a9, c9, h1, hy.1 _ _ _ _ h2⟩
            | 4, h => obtain ⟨p9, a9, c9, h1, h2, h3⟩ := h; exact ⟨p9, a9, c9, h1, hy.2 _ _ _ _ h2, hy.2 _ _ _ _ h3⟩
            | 5, h => exact absurd rfl hne
            | 6, h | 7, h => exact absurd hc (by decide)
            | _ + 8, _ => trivial
          obtain ⟨⟨g1, g0, g2⟩, ⟨z, g3, g4⟩, g5, g6, g7⟩ := hG
          have hz := g4 l7
          subst hz
          have hb1 := blk_gr g3 gr14 (own_ne_blk' o9 g3 (by decide))
          have hb2 := blk_gr g5 gr14 (own_ne_blk' o9 g5 (by decide))
          have hk6 := SSk.again g6 gr14 (keep14 _ _ _ _ (Nat.le_refl _) o9)
          have hE : Ext w w14 := Ext.grown g1 gr14 (fun q hq => by have := owns_ge o9 q hq; omega)
          have hsl : Sl w14 a2 m (zs.map (Value.int .u8)) := Hsl.out w14 hE
          have hlt4 : ∀ y, a4 = some y → y.block < w14.heap.size := fun y hy => Nat.lt_of_lt_of_le (o4.lt y.block (by rw [hy]; rfl)).2 gr14.size
          have happ : SSk w14 (B + 2) w14.heap.size (.slice a14 (k + 1) c14) (k + 1) (k + 1) f _ := SSk.app (hi' := w14.heap.size) (a1 := a4) (c1 := c4) g6 (by rw [← Hm.out, ← Hxs.out]; exact o4) (Nat.le_trans g2 gr14.size) hlt4 (by rw [← Hm.out]; exact own14) gr14
          exact hQo _ _ (hK.out _ _ ⟨⟨_, _, _, rfl, happ⟩, ⟨⟨hE, g0, Nat.le_trans g2 gr14.size⟩, ⟨_, hb1, fun _ => rfl⟩, hb2, hk6, hsl⟩, hst _ ⟨fun _ _ _ _ h => u8_kept o9 gr14 h, fun _ _ _ _ h => own_hi h gr14 hvl⟩⟩)
        case o7 =>
          clear hl ha hb
          rw [ddq (hD 6 rfl)] at hQo ⊢
          have d5 : ∃ (an : Option Addr) (cc : Nat) (cn : List Value), (xs 5) = .slice an (k + 1) cc ∧ SSk wx (B + 2) wx.heap.size (.slice an (k + 1) cc) (k + 1) (k + 1) f cn := hD 5 rfl
          clear hD hI
          generalize xs 5 = y5 at *
          obtain ⟨a5, d5, c5, rfl, s5⟩ := d5
          obtain ⟨⟨g1, g0, g2⟩, ⟨z, g3, g4⟩, g5, g6, g7⟩ := hG
          obtain ⟨-, k0, k1, k2, k3, k4⟩ := bx5 g3
          obtain ⟨f0, f1, f2, f3, f4⟩ := fz5 g3
          go_wp2
          have hst : ∀ (wy : World), wx.grownBy wy (some B) → Stbn 8 7 [[], [0], [], [2], [2, 3], [0, 1, 2, 3, 4], [0, 1, 2, 3, 4, 5], [0, 1, 2, 3, 4, 5, 6]] (fun i own ys wx => match i with | 0 => own = .pointer (some ⟨B, 4, none⟩) | 1 => own = .slice al k cl | 2 => own = .slice a2 m c2 | 3 => ∃ (a1 : Option Addr) (c1 : Nat), own = .slice a1 m c1 ∧ wx.ownsRow HI 5 1 (.slice a1 m c1) m (zs.map (Value.int .u8)) | 4 => ∃ (p : Nat) (a1 : Option Addr) (c1 : Nat), own = .slice (some ⟨p, 0, none⟩) 1 1 ∧ wx.ownsRow HI 30 1 (.slice (some ⟨p, 0, none⟩) 1 1) 1 [.slice a1 m c1] ∧ wx.ownsRow HI 5 1 (.slice a1 m c1) m (zs.map (Value.int .u8)) | 5 => ∃ (an : Option Addr) (cc : Nat) (cn : List Value), own = .slice an (k + 1) cc ∧ SSk wx (B + 2) wx.heap.size (.slice an (k + 1) cc) (k + 1) (k + 1) f cn | 6 => own = .pointer (some ⟨B, 4, none⟩) | 7 => ∃ (an : Option Addr) (cc : Nat) (cn : List Value), wx.heap[B]? = some (.cells #[.int .i64 x, .int .i64 y, .bool ib, .int .i64 q, .slice an (k + 1) cc] 38 (0, 0)) ∧ SSk wx (B + 2) wx.heap.size (.slice an (k + 1) cc) (k + 1) (k + 1) f cn | _ => True) wx wy := by
            intro wy hy ii hii hne hc own ys h
            match ii, h with
            | 0, h | 1, h | 2, h | 6, h => exact h
            | 3, h => obtain ⟨a9, c9, h1, h2⟩ := h; exact ⟨a9, c9, h1, own_gr h2 hy (by omega)⟩
            | 4, h => obtain ⟨p9, a9, c9, h1, h2, h3⟩ := h; exact ⟨p9, a9, c9, h1, own_gr h2 hy (by omega), own_gr h3 hy (by omega)⟩
            | 5, h => obtain ⟨a9, d9, c9, h1, h2⟩ := h; exact ⟨a9, d9, c9, h1, (SSk.gr h2 hy (by omega)).up hy.size⟩
            | 7, h => exact absurd rfl hne
            | _ + 8, _ => trivial
          have hb := heap_setCell_same wx B 4 _ _ (.slice a5 (k + 1) d5) g3
          have gB := gs1 wx B 4 (.slice a5 (k + 1) d5)
          have hE : Ext w (wx.setCell ⟨B, 4, none⟩ (.slice a5 (k + 1) d5)) := Ext.grown g1 gB (fun q hq => by cases hq; omega)
          exact hQo undef _ (hK.out _ _ ⟨⟨a5, d5, c5, by simpa using hb, (SSk.gr s5 gB (by omega)).up gB.size⟩, ⟨⟨hE, g0, Nat.le_trans g2 gB.size⟩, ⟨_, by simpa using hb, fun h => by cases h⟩, blk_gr g5 gB (by simp), SSk.gr g6 gB (by omega), Hsl.out _ hE⟩, hst _ gB⟩)
        all_goals
          clear hl ha hb
          clear hD hI
          go_wp2
          exact hK.out _ _ ⟨rfl, hG, kkp⟩
      clear Hext
      intro xs wx hV hG0
      obtain ⟨Lx, hL, hG⟩ := hG0
      have l7 : Lx 7 = true := hL 7 (by decide)
      clear hL
      have d7 : ∃ (an : Option Addr) (cc : Nat) (cn : List Value), wx.heap[B]? = some (.cells #[.int .i64 x, .int .i64 y, .bool ib, .int .i64 q, .slice an (k + 1) cc] 38 (0, 0)) ∧ SSk wx (B + 2) wx.heap.size (.slice an (k + 1) cc) (k + 1) (k + 1) f cn := hV 7 (by decide)
      clear hV
      simp only [patchS, Nat.reduceAdd, Nat.reduceEqDiff, ↓reduceIte]
      generalize xs 0 = y0, xs 1 = y1, xs 2 = y2, xs 3 = y3, xs 4 = y4, xs 5 = y5, xs 6 = y6, xs 7 = y7 at *
      replace hG : (Ext w wx ∧ Ext wr wr ∧ HI ≤ wx.heap.size) ∧ (∃ z, wx.heap[B]? = some (.cells #[.int .i64 x, .int .i64 y, .bool ib, .int .i64 q, z] 38 (0, 0)) ∧ (Lx 7 = false → z = .slice al k cl)) ∧ wx.heap[B + 1]? = some (.cells #[.int .i64 0, .int .i64 0, .bool false, .int .i64 0, .slice none 0 0] 38 (0, 0)) ∧ SSk wx (B + 2) HI (.slice al k cl) k k f cs ∧ Sl wx a2 m (zs.map (Value.int .u8)) := hG
      obtain ⟨a7, d7, c7, p7, s7⟩ := d7
      have HS7 := Lib.hid s7
      have HG := Lib.hid hG
      have HP := Lib.hid p7
      clear hG s7 S2 E2 p2 r2 h1 h2 h3 h4
      go_wp2
      go_roundw
      case rel => exact ⟨k + 1, _, c7, by omega, by go_num, HG.out.1.1, Nat.le_trans hsz HG.out.1.2.2, HP.out, HG.out.2.2.1, HS7.out⟩
      case measure => simp [intOf]; omega
    · obtain rfl : k = n := by omega
      obtain ⟨al, cl, rfl⟩ := owns_form S2.own
      obtain ⟨-, k0, k1, k2, k3, k4⟩ := bx5 p2
      obtain ⟨-, j0, j1, j2, j3, j4⟩ := bx5 r2
      obtain ⟨f0, f1, f2, f3, f4⟩ := fz5 r2
      have R2 := Lib.hid r2
      have HS := Lib.hid S2
      clear S2 r2
      go_wp2
      refine bodyPost_ret (v := .agg #[.int .i64 x, .int .i64 y, .bool ib, .int .i64 q, .slice al k cl]) (results_cell_row rfl _ _ (B + 1) 38 #[.int .i64 x, .int .i64 y, .bool ib, .int .i64 q, .slice al k cl] (0, 0) _ rfl (blk_set5 R2.out) Tryd.underlying38 rfl size_Coded) rfl ⟨_, _, cs, rfl, ?_, ?_⟩
      · have hg := gs5 wr (B + 1) 0 1 2 3 4 (.int .i64 x) (.int .i64 y) (.bool ib) (.int .i64 q) (.slice al k cl)
        exact ((SSk.gr HS.out hg (by omega)).mono (by omega)).up hg.size
      · exact Ext.grown E2 (gs5 wr (B + 1) 0 1 2 3 4 (.int .i64 x) (.int .i64 y) (.bool ib) (.int .i64 q) (.slice al k cl)) (fun p hp => by cases hp; omega)
/-- append(s, x), x one coded picture in the block just laid. -/
theorem wpList_app5 {P : Program} (wr : World) {ops : Array Oper} {rest : List Oper} {o : Oper} {a : Act} {Q : Exit → Act → World → Prop} {base e : Nat} {v : Value} {n : Nat} {xs : List Value}
    (hown : wr.ownsRow base e 5 v n xs) (hbase : base ≤ wr.heap.size) (u0 u1 u2 u3 u4 : Value)
    (hg : o.guard = none) (s x : Operand) (t : TypeId) (ho : o.op = .call { callee := .builtin .append, args := #[s, x], argTypes := #[t, t] })
    (z : Value) (bytes : Nat) (h1 : P.underlying t = some (.slice e)) (h2 : (P.info? e).map (fun i => (i.zero, i.size, i.bytes)) = some (some z, 5, bytes)) (hz1 : z.cells.size = 5)
    (hs : a.eval s = v) (hx : a.eval x = .slice (some ⟨wr.heap.size, 0, none⟩) 1 1) (hu1 : ∀ u ∈ [u0, u1, u2, u3, u4], u.oneCell' = true)
    (hb : (n + 1) * bytes ≤ 140737488355328) (hn : n < 2 ^ 62)
    (h : ∀ v' w', w'.ownsRow base e 5 v' (n + 1) (xs ++ [u0, u1, u2, u3, u4]) → wr.grownBy w' v.ownBlock → wpList P ops Q rest (a.put o.dst v') w') : wpList P ops Q (o :: rest) a (wr.alloc (.cells #[u0, u1, u2, u3, u4] e)) := by
  obtain ⟨i0, hi, hz0, hz1', hz2⟩ := info_parts h2
  refine wpList_append_own _ hg s x t ho base e i0 z 5 bytes h1 hi hz0 hz1' hz2 hz1 (by decide) v n xs hs (hown.alloc _) ⟨wr.heap.size, 0, none⟩ 1 1 [u0, u1, u2, u3, u4] hx rfl ?_ hu1 (by unfold maxLen; omega) hb (by simp; omega) ?_
  · intro j q hq
    match j, hq with
    | 0, hq => simp at hq; subst hq; simp [Addr.add, World.cell?_alloc_at]
    | 1, hq => simp at hq; subst hq; simp [Addr.add, World.cell?_alloc_at]
    | 2, hq => simp at hq; subst hq; simp [Addr.add, World.cell?_alloc_at]
    | 3, hq => simp at hq; subst hq; simp [Addr.add, World.cell?_alloc_at]
    | 4, hq => simp at hq; subst hq; simp [Addr.add, World.cell?_alloc_at]
    | n + 5, hq => simp at hq
  · intro v' w' a1 a2 _
    exact h v' w' a1 (grownBy_trans (World.grownBy_alloc _ _ _) a2)
/-- A coded picture is appended. -/
theorem CE.app {w w' : World} {lo hi hi' n : Nat} {v v' : Value} {r : Nat → Cd} {cs ss : List Value} {a1 : Option Addr} {c1 : Nat} (h : CE w lo hi v n n r cs)
    (h3 : SSg w hi hi' (.slice a1 (r n).n c1) (r n).n (r n).f ss) (hh : hi ≤ hi')
    (own : w'.ownsRow lo 38 5 v' (n + 1) (cs ++ [.int .i64 (r n).w, .int .i64 (r n).h, .bool (r n).i, .int .i64 (r n).q, .slice a1 (r n).n c1])) (g : w.grownBy w' v.ownBlock) :
    CE w' lo hi' v' (n + 1) (n + 1) r (cs ++ [.int .i64 (r n).w, .int .i64 (r n).h, .bool (r n).i, .int .i64 (r n).q, .slice a1 (r n).n c1]) := by
  have hcl : cs.length = n * 5 := by obtain ⟨us, h1, -⟩ := h; exact h1.1
  refine h.snoc h3 hh own g (fun o ho => by rw [List.getElem?_append_left (by omega)]) ⟨?_, ?_, ?_, ?_, ?_⟩ <;> (rw [← hcl, List.getElem?_append_right (by omega)]; simp)
theorem CE.own {w : World} {lo hi n k : Nat} {v : Value} {r : Nat → Cd} {cs : List Value} (h : CE w lo hi v n k r cs) : w.ownsRow lo 38 5 v n cs := by
  obtain ⟨us, h1, -⟩ := h; exact h1
end Go.Proofs.YtmokncpppmchfaaDoor
