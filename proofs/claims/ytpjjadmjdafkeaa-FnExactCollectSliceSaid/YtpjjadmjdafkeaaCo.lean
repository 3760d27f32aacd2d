/- CollectSlice: what it returns (plain); the map of the first valid packets. -/
import Derived.Test.YtpjjadmjdafkeaaMi
import Derived.Test.YtpjjadmjdafkeaaK2
import Derived.DeepKeys4
namespace Go.Proofs.Ytpjjadmjdafkeaa
open Go.RowKit Go.Maps
set_option maxHeartbeats 400000
/-- The i-th packet is a valid one with this picture, row and part. -/
def kmatch (L : List Pkt) (f r p : Int) (i : Nat) : Bool := decide (kget L i).ok && (decide ((kget L i).fr = f) && (decide ((kget L i).row = r) && decide ((kget L i).part = p)))
/-- The first such one among the first k. -/
def ffind (L : List Pkt) (f r p : Int) (k : Nat) : Option Nat := (List.range k).find? (kmatch L f r p)
theorem ffind_succ (L : List Pkt) (f r p : Int) (k : Nat) : ffind L f r p (k + 1) = (ffind L f r p k).or (if kmatch L f r p k then some k else none) := by
  unfold ffind
  rw [List.range_succ, List.find?_append]
  congr 1
  cases h : kmatch L f r p k <;> simp [h]
theorem ffind_same {L : List Pkt} {f r p : Int} {k : Nat} (h : kmatch L f r p k = false ∨ (ffind L f r p k).isSome = true) : ffind L f r p (k + 1) = ffind L f r p k := by
  rw [ffind_succ]
  rcases h with h | h
  · rw [h]; simp
  · obtain ⟨x, hx⟩ := Option.isSome_iff_exists.1 h
    rw [hx]; simp
theorem ffind_new {L : List Pkt} {f r p : Int} {k : Nat} (h : kmatch L f r p k = true) (h2 : ffind L f r p k = none) : ffind L f r p (k + 1) = some k := by
  rw [ffind_succ, h2, h]; simp
theorem ffind_lt {L : List Pkt} {f r p : Int} {k i : Nat} (h : ffind L f r p k = some i) : i < k ∧ kmatch L f r p i = true := by
  unfold ffind at h
  have h1 := List.mem_of_find?_eq_some h
  have h2 := List.find?_some h
  exact ⟨by simpa using h1, h2⟩
theorem kmatch_iff {L : List Pkt} {f r p : Int} {i : Nat} : kmatch L f r p i = true ↔ (kget L i).ok ∧ (kget L i).fr = f ∧ (kget L i).row = r ∧ (kget L i).part = p := by
  unfold kmatch
  simp only [Bool.and_eq_true, decide_eq_true_eq]
theorem kmatch_not {L : List Pkt} {f r p : Int} {i : Nat} (h : ¬ ((kget L i).ok ∧ (kget L i).fr = f ∧ (kget L i).row = r ∧ (kget L i).part = p)) : kmatch L f r p i = false := by
  cases hk : kmatch L f r p i
  · rfl
  · exact absurd (kmatch_iff.1 hk) h
/-- The search from the end: what is known when k is the least one looked at. -/
def Fnd (L : List Pkt) (f r p : Int) (n k : Nat) : Option Nat → Prop
  | none => ∀ i, k ≤ i → i < n → kmatch L f r p i = false
  | some i => k ≤ i ∧ i < n ∧ kmatch L f r p i = true ∧ ∀ j, k ≤ j → j < i → kmatch L f r p j = false
def atv : Option Nat → Int
  | none => -1
  | some i => i
theorem Fnd.none (L : List Pkt) (f r p : Int) (n : Nat) : Fnd L f r p n n none := fun i h1 h2 => by omega
theorem Fnd.hit {L : List Pkt} {f r p : Int} {n k : Nat} (hk : k < n) (h : kmatch L f r p k = true) : Fnd L f r p n k (some k) := ⟨Nat.le_refl _, hk, h, fun j h1 h2 => by omega⟩
theorem Fnd.miss {L : List Pkt} {f r p : Int} {n k : Nat} {o : Option Nat} (h : Fnd L f r p n (k + 1) o) (hm : kmatch L f r p k = false) : Fnd L f r p n k o := by
  have step : ∀ {j : Nat}, k ≤ j → j ≠ k → k + 1 ≤ j := fun h1 h2 => by omega
  cases o with
  | none =>
    intro i h1 h2
    by_cases e : i = k
    · subst e; exact hm
    · exact h i (step h1 e) h2
  | some i =>
    obtain ⟨h1, h2, h3, h4⟩ := h
    refine ⟨by omega, h2, h3, fun j h5 h6 => ?_⟩
    by_cases e : j = k
    · subst e; exact hm
    · exact h4 j (step h5 e) h6
theorem Fnd.done {L : List Pkt} {f r p : Int} {n : Nat} {o : Option Nat} (h : Fnd L f r p n 0 o) : ffind L f r p n = o := by
  unfold ffind
  cases o with
  | none =>
    rw [List.find?_eq_none]
    intro x hx
    rw [h x (Nat.zero_le _) (by simpa using hx)]; simp
  | some i =>
    obtain ⟨-, h2, h3, h4⟩ := h
    rw [List.find?_eq_some_iff_getElem]
    refine ⟨h3, i, by simpa using h2, by simp, fun j hj => ?_⟩
    have := h4 j (Nat.zero_le _) (by omega)
    simp [this]
/-- The parts from p on, at most fuel of them, behind acc. -/
def cfrom (L : List Pkt) (f r : Int) (n : Nat) : Nat → Nat → List Int → Option (List Int)
  | 0, _, _ => none
  | fuel + 1, p, acc => match ffind L f r (p : Int) n with
    | none => none
    | some i => if (kget L i).last then some (acc ++ (kget L i).data) else cfrom L f r n fuel (p + 1) (acc ++ (kget L i).data)
/-- What CollectSlice finds. -/
def coll (L : List Pkt) (f r : Int) : Option (List Int) := cfrom L f r L.length 256 0 []
theorem kok_len {L : List Pkt} {f r p : Int} {i : Nat} (h : kmatch L f r p i = true) : (kget L i).data.length ≤ 200 := by
  have h1 := (kmatch_iff.1 h).1
  unfold Pkt.ok pval at h1
  omega
theorem cfrom_len (L : List Pkt) (f r : Int) (n : Nat) : ∀ (fuel p : Nat) (acc x : List Int), cfrom L f r n fuel p acc = some x → x.length ≤ acc.length + fuel * 200 := by
  intro fuel
  induction fuel with
  | zero => intro p acc x h; simp [cfrom] at h
  | succ fuel ih =>
    intro p acc x h
    simp only [cfrom] at h
    split at h
    · cases h
    · rename_i i hi
      have hl := kok_len (ffind_lt hi).2
      split at h
      · simp only [Option.some.injEq] at h
        subst h
        rw [List.length_append]; omega
      · have := ih _ _ _ h
        rw [List.length_append] at this; omega
theorem coll_len (L : List Pkt) (f r : Int) : ((coll L f r).getD []).length ≤ 51200 := by
  cases h : coll L f r with
  | none => simp
  | some x =>
    have := cfrom_len L f r _ _ _ _ _ h
    simpa using this
/-- Keys. -/
def pkey (f r p : Int) : Lit := .string (keyBytes [.int .i64 f, .int .i64 r, .int .i64 p])
def pval0 : Value := .agg #[.int .i64 0, .int .i64 0, .int .i64 0, .int .i64 0, .bool false, .slice none 0 0]
/-- The i-th packet as a value, its data at A i with capacity C i. -/
def kval (L : List Pkt) (A : Nat → Option Addr) (C : Nat → Nat) (i : Nat) : Value :=
  .agg #[.int .i64 (kget L i).num, .int .i64 (kget L i).fr, .int .i64 (kget L i).row, .int .i64 (kget L i).part, .bool (kget L i).last, .slice (A i) (kget L i).data.length (C i)]
def heldR (v : Value) : Option (DataW Value × List MemPlace) := some (.held v, [])
def wfI (x : Int) : Prop := (Lit.int .i64 x).wf = true
/-- The slice at a of n packets reads as L, their data at A, C. -/
def KPV (w : World) (a : Option Addr) (n : Nat) (L : List Pkt) (A : Nat → Option Addr) (C : Nat → Nat) : Prop :=
  L.length = n ∧ ∀ i, i < n → ∃ b off, a = some ⟨b, off, none⟩ ∧ (w.cell? ⟨b, off + i * 6, none⟩ = some (.int .i64 (kget L i).num) ∧ w.cell? ⟨b, off + i * 6 + 1, none⟩ = some (.int .i64 (kget L i).fr) ∧ w.cell? ⟨b, off + i * 6 + 2, none⟩ = some (.int .i64 (kget L i).row) ∧ w.cell? ⟨b, off + i * 6 + 3, none⟩ = some (.int .i64 (kget L i).part) ∧ w.cell? ⟨b, off + i * 6 + 4, none⟩ = some (.bool (kget L i).last) ∧ w.cell? ⟨b, off + i * 6 + 5, none⟩ = some (.slice (A i) (kget L i).data.length (C i))) ∧ Sl w (A i) (kget L i).data.length ((kget L i).data.map (Value.int .u8)) ∧ (kget L i).data.length ≤ C i ∧ C i ≤ maxLen
theorem KP.choose {w : World} {a : Option Addr} {n : Nat} {L : List Pkt} (h : KP w a n L) : ∃ A C, KPV w a n L A C := by
  have h1 : ∀ i, ∃ y : Option Addr × Nat, i < n → ∃ b off, a = some ⟨b, off, none⟩ ∧ (w.cell? ⟨b, off + i * 6, none⟩ = some (.int .i64 (kget L i).num) ∧ w.cell? ⟨b, off + i * 6 + 1, none⟩ = some (.int .i64 (kget L i).fr) ∧ w.cell? ⟨b, off + i * 6 + 2, none⟩ = some (.int .i64 (kget L i).row) ∧ w.cell? ⟨b, off + i * 6 + 3, none⟩ = some (.int .i64 (kget L i).part) ∧ w.cell? ⟨b, off + i * 6 + 4, none⟩ = some (.bool (kget L i).last) ∧ w.cell? ⟨b, off + i * 6 + 5, none⟩ = some (.slice y.1 (kget L i).data.length y.2)) ∧ Sl w y.1 (kget L i).data.length ((kget L i).data.map (Value.int .u8)) ∧ (kget L i).data.length ≤ y.2 ∧ y.2 ≤ maxLen := by
    intro i
    by_cases hi : i < n
    · obtain ⟨b, off, ha, a2, n2, c2, g1, g2, g3, g4, -⟩ := h.2 i hi
      have := g2.int_len
      subst this
      exact ⟨(a2, c2), fun _ => ⟨b, off, ha, g1, g2, g3, g4⟩⟩
    · exact ⟨(none, 0), fun h => absurd h hi⟩
  exact ⟨fun i => (Classical.choose (h1 i)).1, fun i => (Classical.choose (h1 i)).2, h.1, fun i hi => Classical.choose_spec (h1 i) hi⟩
theorem KPV.ext {w w' : World} {a : Option Addr} {n : Nat} {L : List Pkt} {A : Nat → Option Addr} {C : Nat → Nat} (h : KPV w a n L A C) (e : Ext w w') : KPV w' a n L A C := by
  refine ⟨h.1, fun i hi => ?_⟩
  obtain ⟨b, off, ha, ⟨h1, h2, h3, h4, h5, h6⟩, h7, h8⟩ := h.2 i hi
  exact ⟨b, off, ha, ⟨cell_ext e h1, cell_ext e h2, cell_ext e h3, cell_ext e h4, cell_ext e h5, cell_ext e h6⟩, h7.ext e, h8⟩
theorem ownsMap_ext {H : Type} {P : Program} {k : TypeId} {R : Value → Option (DataW H × List MemPlace)} {w w' : World} {b m : Nat} {D : DataW H} (h : w.ownsMap P k R b m D) (e : Ext w w') : w'.ownsMap P k R b m D := by
  obtain ⟨es, clock, hb, r⟩ := h
  exact ⟨es, clock, e.blk hb, r⟩
/-- The map has the first valid packet of each key among the first k. -/
def MapP (L : List Pkt) (A : Nat → Option Addr) (C : Nat → Nat) (D : DataW Value) (k : Nat) : Prop :=
  IsMap D ∧ ∀ f r p, wfI f → wfI r → wfI p → has D (pkey f r p) = (ffind L f r p k).isSome ∧ D.atKey (pkey f r p) (.held pval0) = .held (match ffind L f r p k with | some i => kval L A C i | none => pval0)
theorem MapP.nil (L : List Pkt) (A : Nat → Option Addr) (C : Nat → Nat) : MapP L A C (.map []) 0 := ⟨isMap_empty, fun f r p _ _ _ => ⟨rfl, rfl⟩⟩
theorem MapP.skip {L : List Pkt} {A : Nat → Option Addr} {C : Nat → Nat} {D : DataW Value} {k : Nat} (h : MapP L A C D k) (hs : ¬ (kget L k).ok ∨ (ffind L (kget L k).fr (kget L k).row (kget L k).part k).isSome = true) : MapP L A C D (k + 1) := by
  refine ⟨h.1, fun f r p w1 w2 w3 => ?_⟩
  rw [ffind_same (k := k)]
  · exact h.2 f r p w1 w2 w3
  · by_cases hm : (kget L k).ok ∧ (kget L k).fr = f ∧ (kget L k).row = r ∧ (kget L k).part = p
    · obtain ⟨m1, rfl, rfl, rfl⟩ := hm
      rcases hs with hs | hs
      · exact absurd m1 hs
      · exact .inr hs
    · exact .inl (kmatch_not hm)
theorem MapP.put {L : List Pkt} {A : Nat → Option Addr} {C : Nat → Nat} {D : DataW Value} {k : Nat} (inj : ∀ {f r p f' r' p' : Int}, wfI f → wfI r → wfI p → wfI f' → wfI r' → wfI p' → pkey f r p = pkey f' r' p' → f = f' ∧ r = r' ∧ p = p') (h : MapP L A C D k) (w1 : wfI (kget L k).fr) (w2 : wfI (kget L k).row) (w3 : wfI (kget L k).part) (hok : (kget L k).ok)
    (hs : ffind L (kget L k).fr (kget L k).row (kget L k).part k = none) : MapP L A C (D.put (pkey (kget L k).fr (kget L k).row (kget L k).part) (.held (kval L A C k))) (k + 1) := by
  refine ⟨h.1.put _ _, fun f r p v1 v2 v3 => ?_⟩
  by_cases hm : (kget L k).fr = f ∧ (kget L k).row = r ∧ (kget L k).part = p
  · obtain ⟨rfl, rfl, rfl⟩ := hm
    rw [ffind_new (kmatch_iff.2 ⟨hok, rfl, rfl, rfl⟩) hs]
    exact ⟨has_put_same h.1 (by simp [pkey, WideAt.IsKeyLit]) _, atKey_put_same h.1 (by simp [pkey, WideAt.IsKeyLit]) _ _⟩
  · have hne : pkey f r p ≠ pkey (kget L k).fr (kget L k).row (kget L k).part := fun e => by
      obtain ⟨e1, e2, e3⟩ := inj v1 v2 v3 w1 w2 w3 e
      exact hm ⟨e1.symm, e2.symm, e3.symm⟩
    rw [has_put_other hne, atKey_put_other hne, ffind_same (.inl (kmatch_not (fun h => hm h.2)))]
    exact h.2 f r p v1 v2 v3
/-- v, ok := m[k] in a map that holds values as they are. -/
theorem wpList_lookup_held {P : Program} (w : World) {ops : Array Oper} {rest : List Oper} {o : Oper} {a : Act} {Q : Exit → Act → World → Prop}
    (hg : o.guard = none) (m x : Operand) (t : TypeId) (hop : o.op = Op.lookup t m x true)
    (k e : TypeId) (K : Keyed P k) (ht : P.underlying t = some (.map k e)) {z : Value} (hz : (zeroValue e).run P w = .ok z w) (b n : Nat) (D : DataW Value)
    (hm : a.eval m = .map (some b)) (hown : w.ownsMap P k heldR b n D) (key : Value) (kl : Lit) (hx : a.eval x = key) (hkey : keyOf P k key = some kl) (v : Value) (c : Bool) (hc : has D kl = c) (hat : D.atKey kl (.held z) = .held v)
    (hK : wpList P ops Q rest (a.put o.dst (.tuple #[v, .bool c])) w) :
    wpList P ops Q (o :: rest) a w := by
  subst hc
  refine wpList_lookup_own_ok w hg m x t hop k e K ht heldR hz (.held z) [] rfl b n D hm hown key kl hx hkey (fun v' ps hv => ?_)
  rw [hat] at hv
  simp [heldR] at hv
  rw [hv.1]
  exact hK
theorem pkey_wide : (match Try.prog.underlying 101 with | some (.array _ _) | some (.struct _) => true | _ => false) = true := by kernel_rfl
theorem laid_out : laidOutB Try.prog = true := by kernel_rfl
set_option maxRecDepth 100000 in
theorem pkey_row : 101 < Try.prog.types.size := of_decide_eq_true (by kernel_rfl)
theorem pkey_type : Try.prog.keyTypeAt 2 101 = true := by kernel_rfl
theorem pkey_tiled : Try.prog.tiled 2 101 = true := by kernel_rfl
set_option maxRecDepth 100000 in
theorem pkey_law : WideMaps.KeyLaw Try.prog 101 := deep_law_laid laid_out (m := 2) (by omega) pkey_row pkey_type pkey_wide
theorem keyed_P : Keyed Try.prog 101 := Keyed.of_law pkey_law
theorem zero_Packet (w : World) : (zeroValue 27).run Try.prog w = .ok pval0 w := by kernel_rfl
theorem keyOf_P {f r p : Int} (h1 : wfI f) (h2 : wfI r) (h3 : wfI p) : keyOf Try.prog 101 (.agg #[.int .i64 f, .int .i64 r, .int .i64 p]) = some (pkey f r p) := by
  have hts : Try.prog.types.size = (Try.prog.types.size - 1) + 1 := by kernel_rfl
  have hk : Try.prog.keyType 101 = true := by kernel_rfl
  have hc : Try.prog.cellsOf 101 = 3 := by kernel_rfl
  have hc3 : Try.prog.cellsOf 3 = 1 := by kernel_rfl
  have hf : (Value.agg #[.int .i64 f, .int .i64 r, .int .i64 p]).formed Try.prog 101 = true := by
    simp [Value.formed, Try.underlying101, hc]
  have hi : ∀ x, wfI x → ∀ d, Try.prog.keyLits (d + 1) 3 [.int .i64 x] = some [.int .i64 x] := fun x hx d => by
    unfold wfI at hx
    simp only [Program.keyLits, Try.underlying3, hx, and_self, if_true]
  unfold keyOf
  rw [Try.underlying101]
  simp only [hk, hf, Bool.and_self, if_true]
  rw [hts]
  have hu := Try.underlying101
  simp only [Program.keyLits, hu]
  have g1 : (Lit.int .i64 f).wf = true := h1
  have g2 : (Lit.int .i64 r).wf = true := h2
  have g3 : (Lit.int .i64 p).wf = true := h3
  simp [Value.cells, hc, hc3, g1, g2, g3, pkey]
set_option maxRecDepth 100000 in
theorem pkey_inj {f r p f' r' p' : Int} (h1 : wfI f) (h2 : wfI r) (h3 : wfI p) (h4 : wfI f') (h5 : wfI r') (h6 : wfI p') (e : pkey f r p = pkey f' r' p') : f = f' ∧ r = r' ∧ p = p' := by
  have k1 := keyOf_P h1 h2 h3
  have k2 := keyOf_P h4 h5 h6
  rw [e] at k1
  have := keyOf_inj_deep pkey_tiled pkey_wide k1 k2
  simp at this
  exact this
end Go.Proofs.Ytpjjadmjdafkeaa
