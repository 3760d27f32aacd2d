/- Coded pictures and lists of them: what they read as; rows of the call's own, one behind the other. -/
import Derived.Test.YtmokncpppmchfaaDoorP2
namespace Go.Proofs.YtmokncpppmchfaaDoor
open Go.RowKit
set_option maxHeartbeats 400000
theorem bx5 {w : World} {b : Nat} {x0 x1 x2 x3 x4 : Value} {T : TypeId} (h : w.heap[b]? = some (.cells #[x0, x1, x2, x3, x4] T (0, 0))) : b < w.heap.size ∧ w.cell? ⟨b, 0, none⟩ = some x0 ∧ w.cell? ⟨b, 1, none⟩ = some x1 ∧ w.cell? ⟨b, 2, none⟩ = some x2 ∧ w.cell? ⟨b, 3, none⟩ = some x3 ∧ w.cell? ⟨b, 4, none⟩ = some x4 :=
  ⟨lt_of_block h, by simp [World.cell?, h], by simp [World.cell?, h], by simp [World.cell?, h], by simp [World.cell?, h], by simp [World.cell?, h]⟩
theorem fz5 {w : World} {b : Nat} {x0 x1 x2 x3 x4 : Value} {T : TypeId} (h : w.heap[b]? = some (.cells #[x0, x1, x2, x3, x4] T (0, 0))) : w.frozen? ⟨b, 0, none⟩ = false ∧ w.frozen? ⟨b, 1, none⟩ = false ∧ w.frozen? ⟨b, 2, none⟩ = false ∧ w.frozen? ⟨b, 3, none⟩ = false ∧ w.frozen? ⟨b, 4, none⟩ = false :=
  ⟨by simp [World.frozen?, h], by simp [World.frozen?, h], by simp [World.frozen?, h], by simp [World.frozen?, h], by simp [World.frozen?, h]⟩
theorem blk_set5 {w : World} {b : Nat} {x0 x1 x2 x3 x4 y0 y1 y2 y3 y4 : Value} {T : TypeId} (h : w.heap[b]? = some (.cells #[x0, x1, x2, x3, x4] T (0, 0))) : (((((w.setCell ⟨b, 0, none⟩ y0).setCell ⟨b, 1, none⟩ y1).setCell ⟨b, 2, none⟩ y2).setCell ⟨b, 3, none⟩ y3).setCell ⟨b, 4, none⟩ y4).heap[b]? = some (.cells #[y0, y1, y2, y3, y4] T (0, 0)) := by
  have h1 := heap_setCell_same w b 0 _ _ y0 h
  have h2 := heap_setCell_same _ b 1 _ _ y1 h1
  have h3 := heap_setCell_same _ b 2 _ _ y2 h2
  have h4 := heap_setCell_same _ b 3 _ _ y3 h3
  have h5 := heap_setCell_same _ b 4 _ _ y4 h4
  simpa using h5
theorem gs1 (w : World) (g o : Nat) (u : Value) : w.grownBy (w.setCell ⟨g, o, none⟩ u) (some g) := ⟨rfl, rfl, rfl, by simp, fun k _ hk => heap_setCell_other w ⟨g, o, none⟩ k u (fun e => hk (by simp [e]))⟩
theorem gs5 (w : World) (B i0 i1 i2 i3 i4 : Nat) (u0 u1 u2 u3 u4 : Value) : w.grownBy (((((w.setCell ⟨B, i0, none⟩ u0).setCell ⟨B, i1, none⟩ u1).setCell ⟨B, i2, none⟩ u2).setCell ⟨B, i3, none⟩ u3).setCell ⟨B, i4, none⟩ u4) (some B) :=
  grownBy_trans (grownBy_trans (grownBy_trans (grownBy_trans (gs1 _ _ _ _) (gs1 _ _ _ _)) (gs1 _ _ _ _)) (gs1 _ _ _ _)) (gs1 _ _ _ _)
theorem gs4 (w : World) (B i0 i1 i2 i3 : Nat) (u0 u1 u2 u3 : Value) : w.grownBy ((((w.setCell ⟨B, i0, none⟩ u0).setCell ⟨B, i1, none⟩ u1).setCell ⟨B, i2, none⟩ u2).setCell ⟨B, i3, none⟩ u3) (some B) :=
  grownBy_trans (grownBy_trans (grownBy_trans (gs1 _ _ _ _) (gs1 _ _ _ _)) (gs1 _ _ _ _)) (gs1 _ _ _ _)
theorem own_ne2 {w : World} {b1 b2 e1 e2 s1 s2 n1 n2 : Nat} {v1 v2 : Value} {x1 x2 : List Value} (h1 : w.ownsRow b1 e1 s1 v1 n1 x1) (h2 : w.ownsRow b2 e2 s2 v2 n2 x2) (hne : e1 ≠ e2) : v1.ownBlock = none ∨ v1.ownBlock ≠ v2.ownBlock := by
  rcases h1.2 with ⟨rfl, -⟩ | ⟨g, cap, cur, rfl, -, p1, -⟩
  · exact .inl rfl
  · right
    intro he
    rcases h2.2 with ⟨rfl, -⟩ | ⟨g', cap', cur', rfl, -, p2, -⟩
    · simp [Value.ownBlock] at he
    · simp [Value.ownBlock] at he
      subst he
      rw [p1] at p2
      simp at p2
      exact hne p2.2
/-- Sums. -/
def sumN (g : Nat → Nat) : Nat → Nat
  | 0 => 0
  | n + 1 => sumN g n + g n
theorem sumN_mono {g : Nat → Nat} {i n : Nat} (h : i ≤ n) : sumN g i ≤ sumN g n := by
  induction n with
  | zero => obtain rfl : i = 0 := by omega
            exact Nat.le_refl _
  | succ n ih =>
    by_cases hi : i = n + 1
    · subst hi; exact Nat.le_refl _
    · have := ih (by omega); simp only [sumN]; omega
theorem sumN_mem {g : Nat → Nat} {i n : Nat} (h : i < n) : g i ≤ sumN g n := by
  have := sumN_mono (g := g) (show i + 1 ≤ n from h)
  simp only [sumN] at this; omega
theorem sumN_congr {g h : Nat → Nat} {n : Nat} (e : ∀ i, i < n → g i = h i) : sumN g n = sumN h n := by
  induction n with
  | zero => rfl
  | succ n ih => simp only [sumN]; rw [ih (fun i hi => e i (by omega)), e n (by omega)]
theorem seq_le {bs : Nat → Nat} {n : Nat} (h : ∀ i, i < n → bs i ≤ bs (i + 1)) : ∀ {j i : Nat}, i ≤ j → j ≤ n → bs i ≤ bs j := by
  intro j
  induction j with
  | zero => intro i hi _; obtain rfl : i = 0 := by omega
            exact Nat.le_refl _
  | succ j ih =>
    intro i hi hj
    by_cases e : i = j + 1
    · subst e; exact Nat.le_refl _
    · exact Nat.le_trans (ih (by omega) (by omega)) (h j (by omega))
theorem seq_snoc {us : Nat → Nat} {k lo hi hi' : Nat} (h2 : lo ≤ us 0) (h4 : us k ≤ hi) (h5 : ∀ i, i < k → us i ≤ us (i + 1)) (hh : hi ≤ hi') :
    ∃ vs : Nat → Nat, (∀ i, i < k → vs i = us i) ∧ vs k = hi ∧ vs (k + 1) = hi' ∧ lo ≤ vs 0 ∧ (∀ i, i < k + 1 → vs i ≤ vs (i + 1)) ∧ ∀ i, i < k → us (i + 1) ≤ vs (i + 1) := by
  obtain ⟨vs, v1, v2, v3⟩ : ∃ vs : Nat → Nat, (∀ i, i < k → vs i = us i) ∧ vs k = hi ∧ vs (k + 1) = hi' :=
    ⟨fun i => if i < k then us i else if i = k then hi else hi', fun i hi => by simp [hi], by simp, by simp; omega⟩
  have hle : ∀ i, i < k → us (i + 1) ≤ vs (i + 1) := fun i hi3 => by
    by_cases e : i + 1 = k
    · rw [e, v2]; exact h4
    · rw [v1 _ (by omega)]; exact Nat.le_refl _
  refine ⟨vs, v1, v2, v3, ?_, fun i hi2 => ?_, hle⟩
  · by_cases h0 : k = 0
    · subst h0; rw [v2]; omega
    · rw [v1 0 (by omega)]; exact h2
  · by_cases e : i = k
    · subst e; rw [v2, v3]; exact hh
    · rw [v1 i (by omega)]; exact Nat.le_trans (h5 i (by omega)) (hle i (by omega))
/-- The list of f's strings. -/
def lst (n : Nat) (f : Nat → List Int) : List (List Int) := (List.range n).map f
theorem lst_len (n : Nat) (f : Nat → List Int) : (lst n f).length = n := by simp [lst]
theorem lget_lst {n : Nat} {f : Nat → List Int} {i : Nat} (h : i < n) : lget (lst n f) i = f i := by simp [lget, lst, h]
theorem lst_mem {n : Nat} {f : Nat → List Int} {x : List Int} (h : x ∈ lst n f) : ∃ i, i < n ∧ x = f i := by
  simp only [lst, List.mem_map, List.mem_range] at h
  obtain ⟨i, hi, rfl⟩ := h
  exact ⟨i, hi, rfl⟩
theorem lst_congr {n : Nat} {f g : Nat → List Int} (h : ∀ i, i < n → f i = g i) : lst n f = lst n g := by
  unfold lst
  exact List.map_congr_left fun i hi => h i (by simpa using hi)
theorem SS.of {w : World} {a : Option Addr} {n : Nat} {f : Nat → List Int} (h : ∀ i, i < n → ∃ b off, a = some ⟨b, off, none⟩ ∧ BsAt w b (off + i) (f i)) : SS w a n (lst n f) :=
  ⟨lst_len _ _, fun i hi => by rw [lget_lst hi]; exact h i hi⟩
theorem SS.at {w : World} {a : Option Addr} {n : Nat} {f : Nat → List Int} (h : SS w a n (lst n f)) {i : Nat} (hi : i < n) : ∃ b off, a = some ⟨b, off, none⟩ ∧ BsAt w b (off + i) (f i) := by
  have := h.2 i hi
  rw [lget_lst hi] at this
  exact this
/-- A coded picture. -/
structure Cd where
  w : Int
  h : Int
  i : Bool
  q : Int
  n : Nat
  f : Nat → List Int
def cd0 : Cd := ⟨0, 0, false, 0, 0, fun _ => []⟩
/-- The five cells at b, o read as a coded picture. -/
def CdAt (w : World) (b o : Nat) (x : Cd) : Prop :=
  ∃ (a : Option Addr) (c : Nat), (w.cell? ⟨b, o, none⟩ = some (.int .i64 x.w) ∧ w.cell? ⟨b, o + 1, none⟩ = some (.int .i64 x.h) ∧ w.cell? ⟨b, o + 2, none⟩ = some (.bool x.i) ∧ w.cell? ⟨b, o + 3, none⟩ = some (.int .i64 x.q) ∧ w.cell? ⟨b, o + 4, none⟩ = some (.slice a x.n c)) ∧ SS w a x.n (lst x.n x.f) ∧ x.n ≤ c ∧ c ≤ maxLen
/-- The slice at a of n coded pictures reads as r. -/
def CP (w : World) (a : Option Addr) (n : Nat) (r : Nat → Cd) : Prop :=
  ∀ i, i < n → ∃ b off, a = some ⟨b, off, none⟩ ∧ CdAt w b (off + i * 5) (r i)
theorem CdAt.ext {w w' : World} {b o : Nat} {x : Cd} (h : CdAt w b o x) (e : Ext w w') : CdAt w' b o x := by
  obtain ⟨a, c, ⟨h1, h2, h3, h4, h5⟩, h6, h7⟩ := h
  exact ⟨a, c, ⟨cell_ext e h1, cell_ext e h2, cell_ext e h3, cell_ext e h4, cell_ext e h5⟩, h6.ext e, h7⟩
theorem CP.ext {w w' : World} {a : Option Addr} {n : Nat} {r : Nat → Cd} (h : CP w a n r) (e : Ext w w') : CP w' a n r := fun i hi => by
  obtain ⟨b, off, ha, hs⟩ := h i hi
  exact ⟨b, off, ha, hs.ext e⟩
theorem CP.congr {w : World} {a : Option Addr} {n : Nat} {r s : Nat → Cd} (h : CP w a n r) (e : ∀ i, i < n → r i = s i) : CP w a n s := fun i hi => by
  obtain ⟨b, off, ha, hs⟩ := h i hi
  exact ⟨b, off, ha, by rw [← e i hi]; exact hs⟩
/-- n cells of byte strings of the call's own, of which the first k are laid, one behind the other in bs; the list's cells are cs. -/
def SSb (w : World) (lo hi : Nat) (v : Value) (n k : Nat) (f : Nat → List Int) (cs : List Value) (bs : Nat → Nat) : Prop :=
  w.ownsRow lo 30 1 v n cs ∧ lo ≤ bs 0 ∧ bs k ≤ hi ∧ (∀ i, i < k → bs i ≤ bs (i + 1)) ∧ ∀ i, i < k → ∃ (a' : Option Addr) (c' : Nat), cs[i]? = some (.slice a' (f i).length c') ∧ w.ownsRow (bs i) 5 1 (.slice a' (f i).length c') (f i).length ((f i).map (Value.int .u8)) ∧ ∀ y, a' = some y → y.block < bs (i + 1)
def SSk (w : World) (lo hi : Nat) (v : Value) (n k : Nat) (f : Nat → List Int) (cs : List Value) : Prop := ∃ bs, SSb w lo hi v n k f cs bs
def SSg (w : World) (lo hi : Nat) (v : Value) (n : Nat) (f : Nat → List Int) (cs : List Value) : Prop := SSk w lo hi v n n f cs
theorem SSb.ext {w w' : World} {lo hi n k : Nat} {v : Value} {f : Nat → List Int} {cs : List Value} {bs : Nat → Nat} (h : SSb w lo hi v n k f cs bs) (e : Ext w w') : SSb w' lo hi v n k f cs bs := by
  obtain ⟨h1, h2, h3, h4, h5⟩ := h
  refine ⟨owns_ext h1 e, h2, h3, h4, fun i hi => ?_⟩
  obtain ⟨a', c', k1, k2, k3⟩ := h5 i hi
  exact ⟨a', c', k1, owns_ext k2 e, k3⟩
theorem SSk.ext {w w' : World} {lo hi n k : Nat} {v : Value} {f : Nat → List Int} {cs : List Value} (h : SSk w lo hi v n k f cs) (e : Ext w w') : SSk w' lo hi v n k f cs := by
  obtain ⟨bs, h⟩ := h; exact ⟨bs, h.ext e⟩
theorem SSg.ext {w w' : World} {lo hi n : Nat} {v : Value} {f : Nat → List Int} {cs : List Value} (h : SSg w lo hi v n f cs) (e : Ext w w') : SSg w' lo hi v n f cs := SSk.ext h e
/-- A row of another type has changed. -/
theorem SSk.kept {w w' : World} {lo hi n k b0 T s0 n0 : Nat} {v v0 : Value} {f : Nat → List Int} {cs x0 : List Value} (h : SSk w lo hi v n k f cs) (g : w.grownBy w' v0.ownBlock)
    (o0 : w.ownsRow b0 T s0 v0 n0 x0) (t1 : 30 ≠ T) (t2 : 5 ≠ T) : SSk w' lo hi v n k f cs := by
  obtain ⟨bs, h1, h2, h3, h4, h5⟩ := h
  refine ⟨bs, h1.kept g (own_ne2 h1 o0 t1), h2, h3, h4, fun i hi => ?_⟩
  obtain ⟨a', c', k1, k2, k3⟩ := h5 i hi
  exact ⟨a', c', k1, k2.kept g (own_ne2 k2 o0 t2), k3⟩
theorem SSg.kept {w w' : World} {lo hi n b0 T s0 n0 : Nat} {v v0 : Value} {f : Nat → List Int} {cs x0 : List Value} (h : SSg w lo hi v n f cs) (g : w.grownBy w' v0.ownBlock)
    (o0 : w.ownsRow b0 T s0 v0 n0 x0) (t1 : 30 ≠ T) (t2 : 5 ≠ T) : SSg w' lo hi v n f cs := SSk.kept h g o0 t1 t2
theorem SSg.toSS {w : World} {lo hi n c : Nat} {a : Option Addr} {f : Nat → List Int} {cs : List Value} (h : SSg w lo hi (.slice a n c) n f cs) : SS w a n (lst n f) := by
  obtain ⟨bs, h1, -, -, -, h2⟩ := h
  have s := Sl.of_owns h1
  refine SS.of fun i hi => ?_
  obtain ⟨b, off, ha, hc⟩ := s.2 i hi
  obtain ⟨a', c', h3, h4, -⟩ := h2 i hi
  exact ⟨b, off, ha, a', c', by rw [hc]; simp [List.getD, h3], Sl.of_owns h4, (owns_cap h4).1, (owns_cap h4).2⟩
theorem SSk.zero {w : World} {lo hi n : Nat} {v : Value} {cs : List Value} (f : Nat → List Int) (h : w.ownsRow lo 30 1 v n cs) (hh : lo ≤ hi) : SSk w lo hi v n 0 f cs :=
  ⟨fun _ => lo, h, Nat.le_refl _, hh, fun i hi => by omega, fun i hi => by omega⟩
theorem SSk.own {w : World} {lo hi n k : Nat} {v : Value} {f : Nat → List Int} {cs : List Value} (h : SSk w lo hi v n k f cs) : w.ownsRow lo 30 1 v n cs := by
  obtain ⟨bs, h1, -⟩ := h; exact h1
theorem SSk.nil (w : World) (lo hi : Nat) (f : Nat → List Int) (h : lo ≤ hi) : SSk w lo hi (.slice none 0 0) 0 0 f [] := SSk.zero f (World.ownsRow_nil _ _ _ _) h
theorem SSk.up {w : World} {lo hi hi' n k : Nat} {v : Value} {f : Nat → List Int} {cs : List Value} (h : SSk w lo hi v n k f cs) (e : hi ≤ hi') : SSk w lo hi' v n k f cs := by
  obtain ⟨bs, h1, h2, h3, h4⟩ := h; exact ⟨bs, h1, h2, Nat.le_trans h3 e, h4⟩
theorem SSk.gr {w w' : World} {lo hi n k b : Nat} {v : Value} {f : Nat → List Int} {cs : List Value} (h : SSk w lo hi v n k f cs) (g : w.grownBy w' (some b)) (hb : b < lo) : SSk w' lo hi v n k f cs := by
  obtain ⟨bs, h1, h2, h3, h4, h5⟩ := h
  refine ⟨bs, own_gr h1 g hb, h2, h3, h4, fun i hi2 => ?_⟩
  obtain ⟨a', c', k1, k2, k3⟩ := h5 i hi2
  have := seq_le h4 (show 0 ≤ i by omega) (by omega)
  exact ⟨a', c', k1, own_gr k2 g (by omega), k3⟩
theorem SSk.mono {w : World} {lo lo' hi n k : Nat} {v : Value} {f : Nat → List Int} {cs : List Value} (h : SSk w lo hi v n k f cs) (e : lo' ≤ lo) : SSk w lo' hi v n k f cs := by
  obtain ⟨bs, h1, h2, h3, h4⟩ := h; exact ⟨bs, owns_mono h1 e, Nat.le_trans e h2, h3, h4⟩
/-- A string is laid: what the own row holds is said by cs'. -/
theorem SSk.snoc {w w' : World} {lo hi hi' n n' k : Nat} {v v' : Value} {f : Nat → List Int} {cs cs' : List Value} {a1 : Option Addr} {c1 : Nat} (h : SSk w lo hi v n k f cs)
    (h3 : w.ownsRow hi 5 1 (.slice a1 (f k).length c1) (f k).length ((f k).map (Value.int .u8))) (hh : hi ≤ hi') (hlt : ∀ y, a1 = some y → y.block < hi')
    (own : w'.ownsRow lo 30 1 v' n' cs') (g : w.grownBy w' v.ownBlock) (hold : ∀ o, o < k → cs'[o]? = cs[o]?) (hnew : cs'[k]? = some (.slice a1 (f k).length c1)) : SSk w' lo hi' v' n' (k + 1) f cs' := by
  obtain ⟨bs, h1, h2, h4, h5, h6⟩ := h
  have hk : ∀ {b m xs a c}, w.ownsRow b 5 1 (.slice a m c) m xs → w'.ownsRow b 5 1 (.slice a m c) m xs := fun o => o.kept g (own_ne2 o h1 (by decide))
  obtain ⟨vs, v1, v2, v3, v4, v5, v6⟩ := seq_snoc h2 h4 h5 hh
  refine ⟨vs, own, v4, by rw [v3]; exact Nat.le_refl _, v5, fun i hi2 => ?_⟩
  by_cases e : i = k
  · subst e
    exact ⟨a1, c1, hnew, by rw [v2]; exact hk h3, by rw [v3]; exact hlt⟩
  · obtain ⟨a', c', k1, k2, k3⟩ := h6 i (by omega)
    exact ⟨a', c', by rw [hold _ (by omega)]; exact k1, by rw [v1 i (by omega)]; exact hk k2, fun y hy => Nat.lt_of_lt_of_le (k3 y hy) (v6 i (by omega))⟩
/-- A string is appended. -/
theorem SSk.app {w w' : World} {lo hi hi' n : Nat} {v v' : Value} {f : Nat → List Int} {cs : List Value} {a1 : Option Addr} {c1 : Nat} (h : SSk w lo hi v n n f cs)
    (h3 : w.ownsRow hi 5 1 (.slice a1 (f n).length c1) (f n).length ((f n).map (Value.int .u8))) (hh : hi ≤ hi') (hlt : ∀ y, a1 = some y → y.block < hi')
    (own : w'.ownsRow lo 30 1 v' (n + 1) (cs ++ [.slice a1 (f n).length c1])) (g : w.grownBy w' v.ownBlock) : SSk w' lo hi' v' (n + 1) (n + 1) f (cs ++ [.slice a1 (f n).length c1]) := by
  have hcl : cs.length = n := by have := h.own.1; omega
  exact h.snoc h3 hh hlt own g (fun o ho => by rw [List.getElem?_append_left (by omega)]) (by rw [← hcl]; simp)
/-- What is in a coded picture's cells. -/
def RC (cs : List Value) (o : Nat) (x : Cd) (a : Option Addr) (c : Nat) : Prop :=
  cs[o]? = some (.int .i64 x.w) ∧ cs[o + 1]? = some (.int .i64 x.h) ∧ cs[o + 2]? = some (.bool x.i) ∧ cs[o + 3]? = some (.int .i64 x.q) ∧ cs[o + 4]? = some (.slice a x.n c)
/-- n cells of coded pictures of the call's own, of which the first k are laid, one behind the other in us. -/
def CEu (w : World) (lo hi : Nat) (v : Value) (n k : Nat) (r : Nat → Cd) (cs : List Value) (us : Nat → Nat) : Prop :=
  w.ownsRow lo 38 5 v n cs ∧ lo ≤ us 0 ∧ us k ≤ hi ∧ (∀ i, i < k → us i ≤ us (i + 1)) ∧ ∀ i, i < k → ∃ (a : Option Addr) (c : Nat) (ss : List Value), RC cs (i * 5) (r i) a c ∧ SSg w (us i) (us (i + 1)) (.slice a (r i).n c) (r i).n (r i).f ss
def CE (w : World) (lo hi : Nat) (v : Value) (n k : Nat) (r : Nat → Cd) (cs : List Value) : Prop := ∃ us, CEu w lo hi v n k r cs us
theorem CEu.ext {w w' : World} {lo hi n k : Nat} {v : Value} {r : Nat → Cd} {cs : List Value} {us : Nat → Nat} (h : CEu w lo hi v n k r cs us) (e : Ext w w') : CEu w' lo hi v n k r cs us := by
  obtain ⟨h1, h2, h3, h4, h5⟩ := h
  refine ⟨owns_ext h1 e, h2, h3, h4, fun i hi => ?_⟩
  obtain ⟨a, c, ss, k1, k2⟩ := h5 i hi
  exact ⟨a, c, ss, k1, k2.ext e⟩
theorem CE.ext {w w' : World} {lo hi n k : Nat} {v : Value} {r : Nat → Cd} {cs : List Value} (h : CE w lo hi v n k r cs) (e : Ext w w') : CE w' lo hi v n k r cs := by
  obtain ⟨us, h⟩ := h; exact ⟨us, h.ext e⟩
theorem CE.up {w : World} {lo hi hi' n k : Nat} {v : Value} {r : Nat → Cd} {cs : List Value} (h : CE w lo hi v n k r cs) (e : hi ≤ hi') : CE w lo hi' v n k r cs := by
  obtain ⟨us, h1, h2, h3, h4⟩ := h; exact ⟨us, h1, h2, Nat.le_trans h3 e, h4⟩
theorem CE.congr {w : World} {lo hi n k : Nat} {v : Value} {r s : Nat → Cd} {cs : List Value} (h : CE w lo hi v n k r cs) (e : ∀ i, i < k → r i = s i) : CE w lo hi v n k s cs := by
  obtain ⟨us, h1, h2, h3, h4, h5⟩ := h
  refine ⟨us, h1, h2, h3, h4, fun i hi => ?_⟩
  rw [← e i hi]; exact h5 i hi
theorem CE.toCP {w : World} {lo hi n c : Nat} {a : Option Addr} {r : Nat → Cd} {cs : List Value} (h : CE w lo hi (.slice a n c) n n r cs) : CP w a n r := by
  obtain ⟨us, h1, -, -, -, h5⟩ := h
  intro i hi
  obtain ⟨a2, c2, ss, ⟨k1, k2, k3, k4, k5⟩, k6⟩ := h5 i hi
  rcases id h1.2 with ⟨hv, hn⟩ | ⟨g, cap, cur, hv, -⟩
  · omega
  · simp only [Value.slice.injEq] at hv
    obtain ⟨rfl, -, rfl⟩ := hv
    obtain ⟨bs, o6, -⟩ := id k6
    refine ⟨g, 0, rfl, a2, c2, ⟨?_, ?_, ?_, ?_, ?_⟩, k6.toSS, (owns_cap o6).1, (owns_cap o6).2⟩
    all_goals (rw [Nat.zero_add, h1.cellAt _ (by omega)]; assumption)
/-- Coded pictures of which none is laid. -/
theorem CE.zero {w : World} {lo hi n : Nat} {v : Value} {cs : List Value} (r : Nat → Cd) (h : w.ownsRow lo 38 5 v n cs) (hh : lo ≤ hi) : CE w lo hi v n 0 r cs :=
  ⟨fun _ => lo, h, Nat.le_refl _, hh, fun i hi => by omega, fun i hi => by omega⟩
/-- One more is laid: what the own row holds is said by cs'. -/
theorem CE.snoc {w w' : World} {lo hi hi' n n' k : Nat} {v v' : Value} {r : Nat → Cd} {cs cs' : List Value} {a1 : Option Addr} {c1 : Nat} {ss : List Value} (h : CE w lo hi v n k r cs)
    (h3 : SSg w hi hi' (.slice a1 (r k).n c1) (r k).n (r k).f ss) (hh : hi ≤ hi')
    (own : w'.ownsRow lo 38 5 v' n' cs') (g : w.grownBy w' v.ownBlock) (hold : ∀ o, o < k * 5 → cs'[o]? = cs[o]?) (hnew : RC cs' (k * 5) (r k) a1 c1) : CE w' lo hi' v' n' (k + 1) r cs' := by
  obtain ⟨us, h1, h2, h4, h5, h6⟩ := h
  obtain ⟨vs, v1, v2, v3, v4, v5, v6⟩ := seq_snoc h2 h4 h5 hh
  refine ⟨vs, own, v4, by rw [v3]; exact Nat.le_refl _, v5, fun i hi2 => ?_⟩
  by_cases e : i = k
  · subst e
    exact ⟨a1, c1, ss, hnew, by rw [v2, v3]; exact h3.kept g h1 (by decide) (by decide)⟩
  · obtain ⟨a', c', s', ⟨k1, k2, k3, k4, k5⟩, k6⟩ := h6 i (by omega)
    have hr : RC cs' (i * 5) (r i) a' c' := ⟨by rw [hold _ (by omega)]; exact k1, by rw [hold _ (by omega)]; exact k2, by rw [hold _ (by omega)]; exact k3, by rw [hold _ (by omega)]; exact k4, by rw [hold _ (by omega)]; exact k5⟩
    obtain ⟨bs, q1, q2, q3, q4⟩ := k6.kept g h1 (by decide) (by decide)
    refine ⟨a', c', s', hr, bs, ?_, ?_, Nat.le_trans q3 (v6 i (by omega)), q4⟩
    · rw [v1 i (by omega)]; exact q1
    · rw [v1 i (by omega)]; exact q2
end Go.Proofs.YtmokncpppmchfaaDoor
