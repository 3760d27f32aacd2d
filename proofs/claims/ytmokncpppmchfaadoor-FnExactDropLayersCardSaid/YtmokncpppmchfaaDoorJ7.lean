/- Copies of coded pictures, cutting and joining lists of them: the reference's. -/
import Derived.Test.YtmokncpppmchfaaDoorJ6
import Derived.Test.YtmokncpppmchfaaDoorA2
namespace Go.Proofs.YtmokncpppmchfaaDoor
open Go.RowKit
set_option maxHeartbeats 1000000
theorem wpList_appsk {P : Program} (w : World) {ops : Array Oper} {rest : List Oper} {o : Oper} {a : Act} {Q : Exit → Act → World → Prop} {base e : Nat} {v : Value} {n : Nat} {xs : List Value}
    (hw : Region.wanted o (yielded ops a.tmps) = true)
    (hown : w.ownsRow base e 1 v n xs) (hbase : base ≤ w.heap.size)
    (s x : Operand) (t : TypeId) (ho : o.op = .call { callee := .builtin .append, args := #[s, x], argTypes := #[t, t] })
    (z : Value) (bytes : Nat) (h1 : P.underlying t = some (.slice e)) (h2 : (P.info? e).map (fun i => (i.zero, i.size, i.bytes)) = some (some z, 1, bytes)) (hz1 : z.cells.size = 1)
    (hs : a.eval s = v) (A : Option Addr) (m c : Nat) (us : List Value) (hx : a.eval x = .slice A m c) (src : Sl w A m us) (hu1 : ∀ u ∈ us, u.oneCell' = true)
    (hb : (n + m) * bytes ≤ 140737488355328) (hn : n + m < 2 ^ 62)
    (h : ∀ v' w', w'.ownsRow base e 1 v' (n + m) (xs ++ us) → w.grownBy w' v.ownBlock → (∀ b' n' own xs', n' ≤ n → w.ownsRow b' e 1 own n' xs' → w'.ownsRow b' e 1 own n' xs') → wpList P ops Q rest (a.put o.dst v') w') : wpList P ops Q (o :: rest) a w := by
  cases A with
  | none =>
    obtain ⟨i0, hi, hz0, hz1', hz2⟩ := info_parts h2
    have hm : m = 0 := by
      refine Classical.byContradiction fun h0 => ?_
      obtain ⟨b, off, ha, -⟩ := src.2 0 (by omega)
      cases ha
    subst hm
    have hus : us = [] := List.eq_nil_of_length_eq_zero src.1
    subst hus
    refine wpList_want hw fun _ hK => ?_
    have hrun := run_app_nil (P := P) w base t o.type e i0 1 h1 hi v n xs hown c
    unfold Oper.wp execOp
    simp only [ho, resolve, invoke, builtin, Sem.run_bind, Sem.run_pure, Result.andThen_ok, List.map_toArray, List.map_cons, List.map_nil, hs, hx, hrun]
    exact hK _ _ (h v w (by simpa using hown) (World.grownBy.refl w _) (fun _ _ _ _ _ h => h))
  | some ad =>
    refine wpList_appk w hw hown hbase s x t ho z bytes h1 h2 hz1 (by decide) hs ad m c us hx (by rw [src.1]; omega) ?_ hu1 hb hn h
    by_cases hm : 0 < m
    · exact src.cellsOf _ hm
    · have hus : us = [] := List.eq_nil_of_length_eq_zero (by rw [src.1]; omega)
      subst hus
      intro j u hj
      simp at hj
/-- A fresh row of bytes is overwritten. -/
theorem SSk.fresh {w w' : World} {lo hi n k p b0 n0 c0 : Nat} {v : Value} {f : Nat → List Int} {cs x0 : List Value} (h : SSk w lo hi v n k f cs) (g : w.grownBy w' (some p)) (hp : hi ≤ p) (o : w.ownsRow b0 5 1 (.slice (some ⟨p, 0, none⟩) n0 c0) n0 x0) : SSk w' lo hi v n k f cs := by
  obtain ⟨bs, h1, h2, h3, h4, h5⟩ := h
  refine ⟨bs, h1.kept g (own_ne2 h1 o (by decide)), h2, h3, h4, fun i hi2 => ?_⟩
  obtain ⟨a', c', k1, k2, k3⟩ := h5 i hi2
  refine ⟨a', c', k1, k2.kept g ?_, k3⟩
  have := seq_le h4 (show i + 1 ≤ k from hi2) (Nat.le_refl _)
  cases a' with
  | none => exact .inl rfl
  | some y => right; have := k3 y rfl; simp [Value.ownBlock]; omega
set_option maxRecDepth 100000 in
theorem l20Copy_any (x y q : Int) (ib : Bool) (a : Option Addr) (n c : Nat) (f : Nat → List Int) (w : World) (hn : n ≤ 1048576) (hL : ∀ i, i < n → (f i).length ≤ 1048576) (r : SS w a n (lst n f)) :
    Calls Tryd.prog 20 #[.agg #[.int .i64 x, .int .i64 y, .bool ib, .int .i64 q, .slice a n c]] w fun e w' => ∃ a' c' ss, e = .returned (.agg #[.int .i64 x, .int .i64 y, .bool ib, .int .i64 q, .slice a' n c']) ∧ SSg w' w.heap.size w'.heap.size (.slice a' n c') n f ss ∧ Ext w w' := by
  have HL := Lib.hid hL
  clear hL
  have p0 := blk_alloc (blk_alloc (blk_new w (.cells #[.int .i64 x, .int .i64 y, .bool ib, .int .i64 q, .slice a n c] 38)) (.cells #[.int .i64 0, .int .i64 0, .bool false, .int .i64 0, .slice none 0 0] 38)) (.cells #[.int .i64 x, .int .i64 y, .bool ib, .int .i64 q, .slice none 0 0] 38)
  have r0 := blk_alloc (blk_new (w.alloc (.cells #[.int .i64 x, .int .i64 y, .bool ib, .int .i64 q, .slice a n c] 38)) (.cells #[.int .i64 0, .int .i64 0, .bool false, .int .i64 0, .slice none 0 0] 38)) (.cells #[.int .i64 x, .int .i64 y, .bool ib, .int .i64 q, .slice none 0 0] 38)
  have q0 := blk_new ((w.alloc (.cells #[.int .i64 x, .int .i64 y, .bool ib, .int .i64 q, .slice a n c] 38)).alloc (.cells #[.int .i64 0, .int .i64 0, .bool false, .int .i64 0, .slice none 0 0] 38)) (.cells #[.int .i64 x, .int .i64 y, .bool ib, .int .i64 q, .slice none 0 0] 38)
  have E0 := ((Ext.alloc w (.cells #[.int .i64 x, .int .i64 y, .bool ib, .int .i64 q, .slice a n c] 38)).trans (Ext.alloc _ (.cells #[.int .i64 0, .int .i64 0, .bool false, .int .i64 0, .slice none 0 0] 38))).trans (Ext.alloc _ (.cells #[.int .i64 x, .int .i64 y, .bool ib, .int .i64 q, .slice none 0 0] 38))
  have hs : (((w.alloc (.cells #[.int .i64 x, .int .i64 y, .bool ib, .int .i64 q, .slice a n c] 38)).alloc (.cells #[.int .i64 0, .int .i64 0, .bool false, .int .i64 0, .slice none 0 0] 38)).alloc (.cells #[.int .i64 x, .int .i64 y, .bool ib, .int .i64 q, .slice none 0 0] 38)).heap.size = w.heap.size + 1 + 1 + 1 := by simp
  simp only [World.size_alloc] at r0 q0
  obtain ⟨B, hB⟩ : ∃ B, B = w.heap.size := ⟨_, rfl⟩
  rw [← hB] at p0 r0 q0 hs
  have hwB : w.heap.size ≤ B := by omega
  have Hst := Lib.hid (⟨p0, r0, q0, E0, hs⟩ : _ ∧ _ ∧ _ ∧ _ ∧ _)
  have HB := Lib.hid hB
  clear p0 r0 q0 E0 hs
  go_enter Tryd.func20, Tryd.ntmps20
  go_wp2_with fail
  rw [← hB]
  clear hB
  go_loopw [4] (fun ix wr => ∃ (k : Nat) (vl : Value) (cs : List Value), k ≤ n ∧ ix = .int .i64 k ∧ Ext w wr ∧ B + 3 ≤ wr.heap.size ∧ wr.heap[B]? = some (.cells #[.int .i64 x, .int .i64 y, .bool ib, .int .i64 q, .slice a n c] 38 (0, 0)) ∧ wr.heap[B + 1]? = some (.cells #[.int .i64 0, .int .i64 0, .bool false, .int .i64 0, .slice none 0 0] 38 (0, 0)) ∧ wr.heap[B + 1 + 1]? = some (.cells #[.int .i64 x, .int .i64 y, .bool ib, .int .i64 q, vl] 38 (0, 0)) ∧ SSk wr (B + 3) wr.heap.size vl k k f cs) (fun ix _ => n - (intOf ix).toNat)
  case atStart =>
    obtain ⟨u1, u2, u3, u4, u5⟩ := Hst.out
    exact ⟨0, _, [], by omega, rfl, u4, by rw [u5]; exact Nat.le_refl _, u1, u2, u3, SSk.nil _ _ _ _ (by rw [u5]; exact Nat.le_refl _)⟩
  case round =>
    clear Hst
    obtain ⟨k, vl, cs, hk, rfl, E2, hsz, p2, r2, q2, S2⟩ := hrel
    obtain ⟨-, m0, m1, m2, m3, m4⟩ := bx5 p2
    by_cases hlt : k < n
    · obtain ⟨b1, o1, rfl, a2, c2, h1', h2, h3, h4⟩ := r.at hlt
      have hfl := HL.out k hlt
      obtain ⟨m, hm⟩ : ∃ m, m = (f k).length := ⟨_, rfl⟩
      obtain ⟨zs, hxs⟩ : ∃ zs, zs = f k := ⟨_, rfl⟩
      rw [← hm] at h1' h2 h3 hfl
      rw [← hxs] at h2
      have Hm := Lib.hid hm
      have Hxs := Lib.hid hxs
      clear hm hxs
      obtain ⟨al, cl, rfl⟩ := owns_form S2.own
      obtain ⟨HI, hHI⟩ : ∃ HI, HI = wr.heap.size := ⟨_, rfl⟩
      rw [← hHI] at hsz S2
      have hHI2 : HI ≤ wr.heap.size := by omega
      have hvl : ∀ q, (Value.slice al k cl).ownBlock = some q → q < HI := fun q hq => by rw [hHI]; exact (S2.own.lt q hq).2
      clear hHI
      have Hsl := Lib.hid (fun (wz : World) (e : Ext w wz) => h2.ext e)
      have H1 := Lib.hid (fun (wz : World) (e : Ext w wz) => cell_ext e h1')
      clear h1' h2
      go_wp2_with fail
      have hext : Stab (fun wa wb => Ext wa wb) (fun i own ys wx => match i with | 0 => own = .pointer (some ⟨B + 1 + 1, 4, none⟩) | 1 => own = .slice al k cl | 2 => ∃ p : Nat, own = .slice (some ⟨p, 0, none⟩) 0 0 ∧ wx.ownsRow HI 5 1 (.slice (some ⟨p, 0, none⟩) 0 0) 0 [] | 3 => own = .pointer (some ⟨B, 4, none⟩) | 4 => own = .slice (some ⟨b1, o1, none⟩) n c | 5 => own = .int .i64 k | 6 => own = .pointer (some ⟨b1, o1 + k, none⟩) | 7 => own = .slice a2 m c2 | 8 => ∃ (a1 : Option Addr) (c1 : Nat), own = .slice a1 m c1 ∧ wx.ownsRow HI 5 1 (.slice a1 m c1) m (zs.map (Value.int .u8)) | 9 => ∃ (p : Nat) (a1 : Option Addr) (c1 : Nat), own = .slice (some ⟨p, 0, none⟩) 1 1 ∧ wx.ownsRow HI 30 1 (.slice (some ⟨p, 0, none⟩) 1 1) 1 [.slice a1 m c1] ∧ wx.ownsRow HI 5 1 (.slice a1 m c1) m (zs.map (Value.int .u8)) | 10 => ∃ (an : Option Addr) (cc : Nat) (cn : List Value), own = .slice an (k + 1) cc ∧ SSk wx (B + 3) wx.heap.size (.slice an (k + 1) cc) (k + 1) (k + 1) f cn | 11 => own = .pointer (some ⟨B + 1 + 1, 4, none⟩) | 12 => ∃ (an : Option Addr) (cc : Nat) (cn : List Value), wx.heap[B + 1 + 1]? = some (.cells #[.int .i64 x, .int .i64 y, .bool ib, .int .i64 q, .slice an (k + 1) cc] 38 (0, 0)) ∧ SSk wx (B + 3) wx.heap.size (.slice an (k + 1) cc) (k + 1) (k + 1) f cn | _ => True) := by
        intro i own ys wa wb e h
        match i, h with
        | 0, h | 1, h | 3, h | 4, h | 5, h | 6, h | 7, h | 11, h => exact h
        | 2, h => obtain ⟨g, h1, h2⟩ := h; exact ⟨g, h1, owns_ext h2 e⟩
        | 8, h => obtain ⟨a9, c9, h1, h2⟩ := h; exact ⟨a9, c9, h1, owns_ext h2 e⟩
        | 9, h => obtain ⟨p9, a9, c9, h1, h2, h3⟩ := h; exact ⟨p9, a9, c9, h1, owns_ext h2 e, owns_ext h3 e⟩
        | 10, h => obtain ⟨a9, d9, c9, h1, h2⟩ := h; exact ⟨a9, d9, c9, h1, (h2.ext e).up e.size⟩
        | 12, h => obtain ⟨a9, d9, c9, h1, h2⟩ := h; exact ⟨a9, d9, c9, e.blk h1, (h2.ext e).up e.size⟩
        | _ + 13, _ => trivial
      have Hext := Lib.hid hext
      clear hext
      refine wp_region_invL (by kernel_rfl) [(21, 0), (22, 1), (23, 2), (24, 3), (25, 4), (26, 5), (27, 6), (28, 7), (29, 8), (30, 9), (31, 10), (32, 11)] [[], [0], [], [], [3], [], [3, 4, 5], [3, 4, 5, 6], [2, 3, 4, 5, 6, 7], [2, 3, 4, 5, 6, 7, 8], [0, 1, 2, 3, 4, 5, 6, 7, 8, 9], [0, 1, 2, 3, 4, 5, 6, 7, 8, 9, 10], [0, 1, 2, 3, 4, 5, 6, 7, 8, 9, 10, 11]] (fun i own ys wx => match i with | 0 => own = .pointer (some ⟨B + 1 + 1, 4, none⟩) | 1 => own = .slice al k cl | 2 => ∃ p : Nat, own = .slice (some ⟨p, 0, none⟩) 0 0 ∧ wx.ownsRow HI 5 1 (.slice (some ⟨p, 0, none⟩) 0 0) 0 [] | 3 => own = .pointer (some ⟨B, 4, none⟩) | 4 => own = .slice (some ⟨b1, o1, none⟩) n c | 5 => own = .int .i64 k | 6 => own = .pointer (some ⟨b1, o1 + k, none⟩) | 7 => own = .slice a2 m c2 | 8 => ∃ (a1 : Option Addr) (c1 : Nat), own = .slice a1 m c1 ∧ wx.ownsRow HI 5 1 (.slice a1 m c1) m (zs.map (Value.int .u8)) | 9 => ∃ (p : Nat) (a1 : Option Addr) (c1 : Nat), own = .slice (some ⟨p, 0, none⟩) 1 1 ∧ wx.ownsRow HI 30 1 (.slice (some ⟨p, 0, none⟩) 1 1) 1 [.slice a1 m c1] ∧ wx.ownsRow HI 5 1 (.slice a1 m c1) m (zs.map (Value.int .u8)) | 10 => ∃ (an : Option Addr) (cc : Nat) (cn : List Value), own = .slice an (k + 1) cc ∧ SSk wx (B + 3) wx.heap.size (.slice an (k + 1) cc) (k + 1) (k + 1) f cn | 11 => own = .pointer (some ⟨B + 1 + 1, 4, none⟩) | 12 => ∃ (an : Option Addr) (cc : Nat) (cn : List Value), wx.heap[B + 1 + 1]? = some (.cells #[.int .i64 x, .int .i64 y, .bool ib, .int .i64 q, .slice an (k + 1) cc] 38 (0, 0)) ∧ SSk wx (B + 3) wx.heap.size (.slice an (k + 1) cc) (k + 1) (k + 1) f cn | _ => True) (fun Lx wx => (Ext w wx ∧ HI ≤ wx.heap.size) ∧ wx.heap[B]? = some (.cells #[.int .i64 x, .int .i64 y, .bool ib, .int .i64 q, .slice (some ⟨b1, o1, none⟩) n c] 38 (0, 0)) ∧ wx.heap[B + 1]? = some (.cells #[.int .i64 0, .int .i64 0, .bool false, .int .i64 0, .slice none 0 0] 38 (0, 0)) ∧ (∃ z, wx.heap[B + 1 + 1]? = some (.cells #[.int .i64 x, .int .i64 y, .bool ib, .int .i64 q, z] 38 (0, 0)) ∧ (Lx 12 = false → z = .slice al k cl)) ∧ SSk wx (B + 3) HI (.slice al k cl) k k f cs) (by kernel_rfl) (by kernel_rfl) (by kernel_rfl) ?g0_r1 ?gop_r1 ?gend_r1
      case g0_r1 => exact ⟨⟨Ext.trans_drewN E2 1, hHI2⟩, p2, r2, ⟨_, q2, fun _ => rfl⟩, S2⟩
      case gop_r1 =>
        refine ⟨?_, ?o1, ?o2, ?_, ?o4, ?_, ?o6, ?o7, ?o8, ?o9, ?o10, ?_, ?o12, trivial⟩ <;> (intro Lx xs wx hG hl ha hb hD hI Qo Kx hK hQo; simp only [patchS, Nat.reduceAdd, Nat.reduceEqDiff, ↓reduceIte] at hQo ⊢)
        case o1 =>
          have l12 : Lx 12 = false := hb 12 rfl
          clear hl ha hb
          rw [ddq (hD 0 rfl)] at hQo ⊢
          clear hD hI
          obtain ⟨z, g1, g2⟩ := hG.2.2.2.1
          obtain rfl := g2 l12
          obtain ⟨-, k0, k1, k2, k3, k4⟩ := bx5 g1
          go_wp2
          exact hK.out _ _ ⟨rfl, hG, kkp⟩
        case o2 =>
          clear hl ha hb
          clear hD hI
          go_wp2
          have e8 := Ext.alloc wx (.cells #[] 5)
          have o4 := World.ownsRow_made (base := HI) (e := 5) (size := 1) wx #[] 0 hG.1.2 (by simp) rfl
          obtain ⟨⟨g1, g2⟩, g3, g4, ⟨z, g5, g6⟩, g7⟩ := hG
          exact hK.out _ _ ⟨⟨_, rfl, o4⟩, ⟨⟨g1.trans e8, Nat.le_trans g2 e8.size⟩, e8.blk g3, e8.blk g4, ⟨z, e8.blk g5, g6⟩, g7.ext e8⟩, fun i _ _ _ own ys h => Hext.out i own ys _ _ e8 h⟩
        case o4 =>
          clear hl ha hb
          rw [ddq (hD 3 rfl)] at hQo ⊢
          clear hD hI
          obtain ⟨-, k0, k1, k2, k3, k4⟩ := bx5 hG.2.1
          go_wp2
          exact hK.out _ _ ⟨rfl, hG, kkp⟩
        case o6 =>
          clear hl ha hb
          rw [ddq (hD 4 rfl), ddq (hD 5 rfl)] at hQo ⊢
          clear hD hI
          go_wp2
          exact hK.out _ _ ⟨rfl, hG, kkp⟩
        case o7 =>
          clear hl ha hb
          rw [ddq (hD 6 rfl)] at hQo ⊢
          clear hD hI
          have h1 := H1.out _ hG.1.1
          go_wp2
          exact hK.out _ _ ⟨rfl, hG, kkp⟩
        case o8 =>
          clear hl ha hb
          rw [ddq (hD 7 rfl)] at hQo ⊢
          have d2 : ∃ p : Nat, (xs 2) = .slice (some ⟨p, 0, none⟩) 0 0 ∧ wx.ownsRow HI 5 1 (.slice (some ⟨p, 0, none⟩) 0 0) 0 [] := hD 2 rfl
          clear hD hI
          generalize xs 2 = y2 at *
          obtain ⟨p2, rfl, o2⟩ := d2
          refine wpList_appsk _ rfl o2 hG.1.2 _ _ 30 rfl (.int .u8 0) 1 Tryd.underlying30 info_uint8 rfl rfl a2 m c2 _ rfl (Hsl.out _ hG.1.1) (one_u8j zs) (by omega) (by omega) ?_
          intro v14 w14 own14 gr14 keep14
          rw [Nat.zero_add, List.nil_append] at own14
          obtain ⟨a14, c14, rfl⟩ := owns_form own14
          have hst : ∀ (wy : World), (∀ b' n' own xs', n' ≤ 0 → wx.ownsRow b' 5 1 own n' xs' → wy.ownsRow b' 5 1 own n' xs') → Stbn 13 8 [[], [0], [], [], [3], [], [3, 4, 5], [3, 4, 5, 6], [2, 3, 4, 5, 6, 7], [2, 3, 4, 5, 6, 7, 8], [0, 1, 2, 3, 4, 5, 6, 7, 8, 9], [0, 1, 2, 3, 4, 5, 6, 7, 8, 9, 10], [0, 1, 2, 3, 4, 5, 6, 7, 8, 9, 10, 11]] (fun i own ys wx => match i with | 0 => own = .pointer (some ⟨B + 1 + 1, 4, none⟩) | 1 => own = .slice al k cl | 2 => ∃ p : Nat, own = .slice (some ⟨p, 0, none⟩) 0 0 ∧ wx.ownsRow HI 5 1 (.slice (some ⟨p, 0, none⟩) 0 0) 0 [] | 3 => own = .pointer (some ⟨B, 4, none⟩) | 4 => own = .slice (some ⟨b1, o1, none⟩) n c | 5 => own = .int .i64 k | 6 => own = .pointer (some ⟨b1, o1 + k, none⟩) | 7 => own = .slice a2 m c2 | 8 => ∃ (a1 : Option Addr) (c1 : Nat), own = .slice a1 m c1 ∧ wx.ownsRow HI 5 1 (.slice a1 m c1) m (zs.map (Value.int .u8)) | 9 => ∃ (p : Nat) (a1 : Option Addr) (c1 : Nat), own = .slice (some ⟨p, 0, none⟩) 1 1 ∧ wx.ownsRow HI 30 1 (.slice (some ⟨p, 0, none⟩) 1 1) 1 [.slice a1 m c1] ∧ wx.ownsRow HI 5 1 (.slice a1 m c1) m (zs.map (Value.int .u8)) | 10 => ∃ (an : Option Addr) (cc : Nat) (cn : List Value), own = .slice an (k + 1) cc ∧ SSk wx (B + 3) wx.heap.size (.slice an (k + 1) cc) (k + 1) (k + 1) f cn | 11 => own = .pointer (some ⟨B + 1 + 1, 4, none⟩) | 12 => ∃ (an : Option Addr) (cc : Nat) (cn : List Value), wx.heap[B + 1 + 1]? = some (.cells #[.int .i64 x, .int .i64 y, .bool ib, .int .i64 q, .slice an (k + 1) cc] 38 (0, 0)) ∧ SSk wx (B + 3) wx.heap.size (.slice an (k + 1) cc) (k + 1) (k + 1) f cn | _ => True) wx wy := by
            intro wy hy ii hii hne hc own ys h
            match ii, h with
            | 0, h | 1, h | 3, h | 4, h | 5, h | 6, h | 7, h => exact h
            | 2, h => obtain ⟨g, h1, h2⟩ := h; exact ⟨g, h1, hy _ _ _ _ (Nat.le_refl _) h2⟩
            | 8, h => exact absurd rfl hne
            | 9, h | 10, h | 11, h | 12, h => exact absurd hc (by decide)
            | _ + 13, _ => trivial
          obtain ⟨⟨g1, g2⟩, g3, g4, ⟨z, g5, g6⟩, g7⟩ := hG
          have hp2 := owns_ge o2 p2 rfl
          have hE : Ext w w14 := Ext.grown g1 gr14 (fun q hq => by simp [Value.ownBlock] at hq; omega)
          exact hQo _ _ (hK.out _ _ ⟨⟨_, _, rfl, own14⟩, ⟨⟨hE, Nat.le_trans g2 gr14.size⟩, blk_gr g3 gr14 (own_ne_blk' o2 g3 (by decide)), blk_gr g4 gr14 (own_ne_blk' o2 g4 (by decide)), ⟨z, blk_gr g5 gr14 (own_ne_blk' o2 g5 (by decide)), g6⟩, SSk.fresh g7 gr14 hp2 o2⟩, hst _ keep14⟩)
        case o9 =>
          clear hl ha hb
          have d8 : ∃ (a1 : Option Addr) (c1 : Nat), (xs 8) = .slice a1 m c1 ∧ wx.ownsRow HI 5 1 (.slice a1 m c1) m (zs.map (Value.int .u8)) := hD 8 rfl
          clear hD hI
          generalize xs 8 = y8 at *
          obtain ⟨a1, c1, rfl, o1x⟩ := d8
          have e8 := Ext.alloc wx (.cells #[.slice a1 m c1] 30)
          have o9 := World.ownsRow_lit (base := HI) (e := 30) (size := 1) wx #[.slice a1 m c1] 1 hG.1.2 (by unfold maxLen; omega) rfl
          go_wp2
          obtain ⟨⟨g1, g2⟩, g3, g4, ⟨z, g5, g6⟩, g7⟩ := hG
          exact hK.out _ _ ⟨⟨_, _, _, rfl, o9, owns_ext o1x e8⟩, ⟨⟨g1.trans e8, Nat.le_trans g2 e8.size⟩, e8.blk g3, e8.blk g4, ⟨z, e8.blk g5, g6⟩, g7.ext e8⟩, fun i _ _ _ own ys h => Hext.out i own ys _ _ e8 h⟩
        case o10 =>
          have l12 : Lx 12 = false := hb 12 rfl
          clear hl ha hb
          rw [ddq (hD 1 rfl)] at hQo ⊢
          have d9 : ∃ (p : Nat) (a1 : Option Addr) (c1 : Nat), (xs 9) = .slice (some ⟨p, 0, none⟩) 1 1 ∧ wx.ownsRow HI 30 1 (.slice (some ⟨p, 0, none⟩) 1 1) 1 [.slice a1 m c1] ∧ wx.ownsRow HI 5 1 (.slice a1 m c1) m (zs.map (Value.int .u8)) := hD 9 rfl
          clear hD hI
          generalize xs 9 = y9 at *
          obtain ⟨p4, a4, c4, rfl, q4, o4⟩ := d9
          have o9 := hG.2.2.2.2.own
          refine wpList_appk _ rfl o9 (Nat.le_trans hsz hG.1.2) _ _ _ rfl (.slice none 0 0) 24 Tryd.underlying36 info_ByteS rfl (by decide) rfl ⟨p4, 0, none⟩ 1 1 _ rfl rfl (q4.cells rfl) (by intro u hu; simp at hu; subst hu; rfl) (by omega) (by omega) ?_
          intro v14 w14 own14 gr14 keep14
          obtain ⟨a14, c14, rfl⟩ := owns_form own14
          have hst : ∀ (wy : World), (∀ b' own n' xs', wx.ownsRow b' 5 1 own n' xs' → wy.ownsRow b' 5 1 own n' xs') ∧ (∀ e' own n' xs', wx.ownsRow HI e' 1 own n' xs' → wy.ownsRow HI e' 1 own n' xs') → Stbn 13 10 [[], [0], [], [], [3], [], [3, 4, 5], [3, 4, 5, 6], [2, 3, 4, 5, 6, 7], [2, 3, 4, 5, 6, 7, 8], [0, 1, 2, 3, 4, 5, 6, 7, 8, 9], [0, 1, 2, 3, 4, 5, 6, 7, 8, 9, 10], [0, 1, 2, 3, 4, 5, 6, 7, 8, 9, 10, 11]] (fun i own ys wx => match i with | 0 => own = .pointer (some ⟨B + 1 + 1, 4, none⟩) | 1 => own = .slice al k cl | 2 => ∃ p : Nat, own = .slice (some ⟨p, 0, none⟩) 0 0 ∧ wx.ownsRow HI 5 1 (.slice (some ⟨p, 0, none⟩) 0 0) 0 [] | 3 => own = .pointer (some ⟨B, 4, none⟩) | 4 => own = .slice (some ⟨b1, o1, none⟩) n c | 5 => own = .int .i64 k | 6 => own = .pointer (some ⟨b1, o1 + k, none⟩) | 7 => own = .slice a2 m c2 | 8 => ∃ (a1 : Option Addr) (c1 : Nat), own = .slice a1 m c1 ∧ wx.ownsRow HI 5 1 (.slice a1 m c1) m (zs.map (Value.int .u8)) | 9 => ∃ (p : Nat) (a1 : Option Addr) (c1 : Nat), own = .slice (some ⟨p, 0, none⟩) 1 1 ∧ wx.ownsRow HI 30 1 (.slice (some ⟨p, 0, none⟩) 1 1) 1 [.slice a1 m c1] ∧ wx.ownsRow HI 5 1 (.slice a1 m c1) m (zs.map (Value.int .u8)) | 10 => ∃ (an : Option Addr) (cc : Nat) (cn : List Value), own = .slice an (k + 1) cc ∧ SSk wx (B + 3) wx.heap.size (.slice an (k + 1) cc) (k + 1) (k + 1) f cn | 11 => own = .pointer (some ⟨B + 1 + 1, 4, none⟩) | 12 => ∃ (an : Option Addr) (cc : Nat) (cn : List Value), wx.heap[B + 1 + 1]? = some (.cells #[.int .i64 x, .int .i64 y, .bool ib, .int .i64 q, .slice an (k + 1) cc] 38 (0, 0)) ∧ SSk wx (B + 3) wx.heap.size (.slice an (k + 1) cc) (k + 1) (k + 1) f cn | _ => True) wx wy := by
            intro wy hy ii hii hne hc own ys h
            match ii, h with
            | 0, h | 1, h | 3, h | 4, h | 5, h | 6, h | 7, h => exact h
            | 2, h => obtain ⟨g, h1, h2⟩ := h; exact ⟨g, h1, hy.1 _ _ _ _ h2⟩
            | 8, h => obtain ⟨a9, c9, h1, h2⟩ := h; exact ⟨a9, c9, h1, hy.1 _ _ _ _ h2⟩
            | 9, h => obtain ⟨p9, a9, c9, h1, h2, h3⟩ := h; exact ⟨p9, a9, c9, h1, hy.2 _ _ _ _ h2, hy.2 _ _ _ _ h3⟩
            | 10, h => exact absurd rfl hne
            | 11, h | 12, h => exact absurd hc (by decide)
            | _ + 13, _ => trivial
          obtain ⟨⟨g1, g2⟩, g3, g4, ⟨z, g5, g6⟩, g7⟩ := hG
          have hz := g6 l12
          subst hz
          have hk6 := SSk.again g7 gr14 (keep14 _ _ _ _ (Nat.le_refl _) o9)
          have hE : Ext w w14 := Ext.grown g1 gr14 (fun q hq => by have := owns_ge o9 q hq; omega)
          have hlt4 : ∀ y, a4 = some y → y.block < w14.heap.size := fun y hy => Nat.lt_of_lt_of_le (o4.lt y.block (by rw [hy]; rfl)).2 gr14.size
          have happ : SSk w14 (B + 3) w14.heap.size (.slice a14 (k + 1) c14) (k + 1) (k + 1) f _ := SSk.app (hi' := w14.heap.size) (a1 := a4) (c1 := c4) g7 (by rw [← Hm.out, ← Hxs.out]; exact o4) (Nat.le_trans g2 gr14.size) hlt4 (by rw [← Hm.out]; exact own14) gr14
          exact hQo _ _ (hK.out _ _ ⟨⟨_, _, _, rfl, happ⟩, ⟨⟨hE, Nat.le_trans g2 gr14.size⟩, blk_gr g3 gr14 (own_ne_blk' o9 g3 (by decide)), blk_gr g4 gr14 (own_ne_blk' o9 g4 (by decide)), ⟨_, blk_gr g5 gr14 (own_ne_blk' o9 g5 (by decide)), fun _ => rfl⟩, hk6⟩, hst _ ⟨fun _ _ _ _ h => u8_kept o9 gr14 h, fun _ _ _ _ h => own_hi h gr14 hvl⟩⟩)
        case o12 =>
          clear hl ha hb
          rw [ddq (hD 11 rfl)] at hQo ⊢
          have d10 : ∃ (an : Option Addr) (cc : Nat) (cn : List Value), (xs 10) = .slice an (k + 1) cc ∧ SSk wx (B + 3) wx.heap.size (.slice an (k + 1) cc) (k + 1) (k + 1) f cn := hD 10 rfl
          clear hD hI
          generalize xs 10 = y10 at *
          obtain ⟨a5, d5, c5, rfl, s5⟩ := d10
          obtain ⟨⟨g1, g2⟩, g3, g4, ⟨z, g5, g6⟩, g7⟩ := hG
          obtain ⟨-, k0, k1, k2, k3, k4⟩ := bx5 g5
          obtain ⟨f0, f1, f2, f3, f4⟩ := fz5 g5
          go_wp2
          have hst : ∀ (wy : World), wx.grownBy wy (some (B + 1 + 1)) → Stbn 13 12 [[], [0], [], [], [3], [], [3, 4, 5], [3, 4, 5, 6], [2, 3, 4, 5, 6, 7], [2, 3, 4, 5, 6, 7, 8], [0, 1, 2, 3, 4, 5, 6, 7, 8, 9], [0, 1, 2, 3, 4, 5, 6, 7, 8, 9, 10], [0, 1, 2, 3, 4, 5, 6, 7, 8, 9, 10, 11]] (fun i own ys wx => match i with | 0 => own = .pointer (some ⟨B + 1 + 1, 4, none⟩) | 1 => own = .slice al k cl | 2 => ∃ p : Nat, own = .slice (some ⟨p, 0, none⟩) 0 0 ∧ wx.ownsRow HI 5 1 (.slice (some ⟨p, 0, none⟩) 0 0) 0 [] | 3 => own = .pointer (some ⟨B, 4, none⟩) | 4 => own = .slice (some ⟨b1, o1, none⟩) n c | 5 => own = .int .i64 k | 6 => own = .pointer (some ⟨b1, o1 + k, none⟩) | 7 => own = .slice a2 m c2 | 8 => ∃ (a1 : Option Addr) (c1 : Nat), own = .slice a1 m c1 ∧ wx.ownsRow HI 5 1 (.slice a1 m c1) m (zs.map (Value.int .u8)) | 9 => ∃ (p : Nat) (a1 : Option Addr) (c1 : Nat), own = .slice (some ⟨p, 0, none⟩) 1 1 ∧ wx.ownsRow HI 30 1 (.slice (some ⟨p, 0, none⟩) 1 1) 1 [.slice a1 m c1] ∧ wx.ownsRow HI 5 1 (.slice a1 m c1) m (zs.map (Value.int .u8)) | 10 => ∃ (an : Option Addr) (cc : Nat) (cn : List Value), own = .slice an (k + 1) cc ∧ SSk wx (B + 3) wx.heap.size (.slice an (k + 1) cc) (k + 1) (k + 1) f cn | 11 => own = .pointer (some ⟨B + 1 + 1, 4, none⟩) | 12 => ∃ (an : Option Addr) (cc : Nat) (cn : List Value), wx.heap[B + 1 + 1]? = some (.cells #[.int .i64 x, .int .i64 y, .bool ib, .int .i64 q, .slice an (k + 1) cc] 38 (0, 0)) ∧ SSk wx (B + 3) wx.heap.size (.slice an (k + 1) cc) (k + 1) (k + 1) f cn | _ => True) wx wy := by
            intro wy hy ii hii hne hc own ys h
            match ii, h with
            | 0, h | 1, h | 3, h | 4, h | 5, h | 6, h | 7, h | 11, h => exact h
            | 2, h => obtain ⟨g, h1, h2⟩ := h; exact ⟨g, h1, own_gr h2 hy (by omega)⟩
            | 8, h => obtain ⟨a9, c9, h1, h2⟩ := h; exact ⟨a9, c9, h1, own_gr h2 hy (by omega)⟩
            | 9, h => obtain ⟨p9, a9, c9, h1, h2, h3⟩ := h; exact ⟨p9, a9, c9, h1, own_gr h2 hy (by omega), own_gr h3 hy (by omega)⟩
            | 10, h => obtain ⟨a9, d9, c9, h1, h2⟩ := h; exact ⟨a9, d9, c9, h1, (SSk.gr h2 hy (by omega)).up hy.size⟩
            | 12, h => exact absurd rfl hne
            | _ + 13, _ => trivial
          have hb := heap_setCell_same wx (B + 1 + 1) 4 _ _ (.slice a5 (k + 1) d5) g5
          have gB := gs1 wx (B + 1 + 1) 4 (.slice a5 (k + 1) d5)
          have hE : Ext w (wx.setCell ⟨B + 1 + 1, 4, none⟩ (.slice a5 (k + 1) d5)) := Ext.grown g1 gB (fun q hq => by cases hq; omega)
          exact hQo undef _ (hK.out _ _ ⟨⟨a5, d5, c5, by simpa using hb, (SSk.gr s5 gB (by omega)).up gB.size⟩, ⟨⟨hE, Nat.le_trans g2 gB.size⟩, blk_gr g3 gB (by simp; omega), blk_gr g4 gB (by simp), ⟨_, by simpa using hb, fun h => by cases h⟩, SSk.gr g7 gB (by omega)⟩, hst _ gB⟩)
        all_goals
          clear hl ha hb
          clear hD hI
          go_wp2
          exact hK.out _ _ ⟨rfl, hG, kkp⟩
      clear Hext
      intro xs wx hV hG0
      obtain ⟨Lx, hL, hG⟩ := hG0
      have l12 : Lx 12 = true := hL 12 (by decide)
      clear hL
      have d12 : ∃ (an : Option Addr) (cc : Nat) (cn : List Value), wx.heap[B + 1 + 1]? = some (.cells #[.int .i64 x, .int .i64 y, .bool ib, .int .i64 q, .slice an (k + 1) cc] 38 (0, 0)) ∧ SSk wx (B + 3) wx.heap.size (.slice an (k + 1) cc) (k + 1) (k + 1) f cn := hV 12 (by decide)
      clear hV
      simp only [patchS, Nat.reduceAdd, Nat.reduceEqDiff, ↓reduceIte]
      generalize xs 0 = y0, xs 1 = y1, xs 2 = y2, xs 3 = y3, xs 4 = y4, xs 5 = y5, xs 6 = y6, xs 7 = y7, xs 8 = y8, xs 9 = y9, xs 10 = y10, xs 11 = y11, xs 12 = y12 at *
      replace hG : (Ext w wx ∧ HI ≤ wx.heap.size) ∧ wx.heap[B]? = some (.cells #[.int .i64 x, .int .i64 y, .bool ib, .int .i64 q, .slice (some ⟨b1, o1, none⟩) n c] 38 (0, 0)) ∧ wx.heap[B + 1]? = some (.cells #[.int .i64 0, .int .i64 0, .bool false, .int .i64 0, .slice none 0 0] 38 (0, 0)) ∧ (∃ z, wx.heap[B + 1 + 1]? = some (.cells #[.int .i64 x, .int .i64 y, .bool ib, .int .i64 q, z] 38 (0, 0)) ∧ (Lx 12 = false → z = .slice al k cl)) ∧ SSk wx (B + 3) HI (.slice al k cl) k k f cs := hG
      obtain ⟨a7, d7, c7, p7, s7⟩ := d12
      have HS7 := Lib.hid s7
      have HG := Lib.hid hG
      have HP := Lib.hid p7
      clear hG s7 S2 E2 p2 r2 q2 h3 h4
      go_wp2
      go_roundw
      case rel => exact ⟨k + 1, _, c7, by omega, by go_num, HG.out.1.1, Nat.le_trans hsz HG.out.1.2, HG.out.2.1, HG.out.2.2.1, HP.out, HS7.out⟩
      case measure => simp [intOf]; omega
    · obtain rfl : k = n := by omega
      obtain ⟨al, cl, rfl⟩ := owns_form S2.own
      obtain ⟨-, k0, k1, k2, k3, k4⟩ := bx5 q2
      obtain ⟨-, j0, j1, j2, j3, j4⟩ := bx5 r2
      obtain ⟨f0, f1, f2, f3, f4⟩ := fz5 r2
      have R2 := Lib.hid r2
      have HS := Lib.hid S2
      clear S2 r2
      go_wp2
      refine bodyPost_ret (v := .agg #[.int .i64 x, .int .i64 y, .bool ib, .int .i64 q, .slice al k cl]) (results_cell_row rfl _ _ (B + 1) 38 #[.int .i64 x, .int .i64 y, .bool ib, .int .i64 q, .slice al k cl] (0, 0) _ rfl (blk_set5 R2.out) Tryd.underlying38 rfl size_Coded) rfl ⟨_, _, cs, rfl, ?_, ?_⟩
      · have hg := gs5 wr (B + 1) 0 1 2 3 4 (.int .i64 x) (.int .i64 y) (.bool ib) (.int .i64 q) (.slice al k cl)
        exact ((SSk.gr HS.out hg (by omega)).mono (by omega)).up hg.size
      · exact Ext.grown E2 (gs5 wr (B + 1) 0 1 2 3 4 (.int .i64 x) (.int .i64 y) (.bool ib) (.int .i64 q) (.slice al k cl)) (fun p hp => by cases hp; omega)
end Go.Proofs.YtmokncpppmchfaaDoor
