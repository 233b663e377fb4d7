/-
  Lemmas for the proof: no statement of its own.
-/
import Derived.Test.YtggcpnnmmcnogaaAlD
set_option linter.unusedVariables false
set_option linter.unusedSimpArgs false
open Go Go.AL
namespace Go.Proofs.Ytggcpnnmmcnogaa
set_option maxRecDepth 20000
/-! ### colors of a graph, in plain words -/
theorem pigeon : ∀ (k : Nat) (l : List Nat), l.Nodup → (∀ x ∈ l, x < k) → l.length ≤ k
  | 0, l, _, h => by
    cases l with
    | nil => simp
    | cons a r => exact absurd (h a (by simp)) (by omega)
  | k + 1, l, hn, h => by
    by_cases hk : k ∈ l
    · have h1 := pigeon k (l.erase k) (hn.erase k) fun x hx => by
        have h2 := (hn.mem_erase_iff).1 hx
        have := h x h2.2
        have := h2.1
        omega
      rw [List.length_erase_of_mem hk] at h1
      omega
    · have h1 := pigeon k l hn fun x hx => by
        have := h x hx
        have : x ≠ k := fun e => hk (e ▸ hx)
        omega
      omega
/-- one more than the greatest color -/
def usedN (c : List Nat) : Nat := c.foldl (fun u x => max u (x + 1)) 0
theorem foldl_used (c : List Nat) : ∀ u, c.foldl (fun u x => max u (x + 1)) u = max u (usedN c) := by
  unfold usedN
  induction c with
  | nil => intro u; simp
  | cons a r ih =>
    intro u
    simp only [List.foldl_cons]
    rw [ih, ih (max 0 (a + 1))]
    omega
theorem usedN_snoc (c : List Nat) (x : Nat) : usedN (c ++ [x]) = max (usedN c) (x + 1) := by
  unfold usedN; rw [List.foldl_append]; rfl
theorem usedN_lt {c : List Nat} {x : Nat} (h : x ∈ c) : x < usedN c := by
  induction c with
  | nil => cases h
  | cons a r ih =>
    have e : usedN (a :: r) = max (a + 1) (usedN r) := by
      show List.foldl _ (max 0 (a + 1)) r = _
      rw [foldl_used]; omega
    rcases List.mem_cons.1 h with rfl | h
    · omega
    · have := ih h; omega
theorem nth_snoc_lt {α : Type} [Inhabited α] {c : List α} {x : α} {i : Nat} (h : i < c.length) : nth (c ++ [x]) i = nth c i := by
  rw [nth_eq _ i (by simp; omega), nth_eq _ i h, List.getElem_append_left h]
theorem nth_snoc_end {α : Type} [Inhabited α] {c : List α} {x : α} : nth (c ++ [x]) c.length = x := by
  rw [nth_eq _ _ (by simp)]; simp
/-- is color x taken by a neighbour among the vertices that have one? -/
def badN (G : List (List Nat)) (c : List Nat) (x : Nat) : Bool := (G.getD c.length []).any fun u => decide (u < c.length) && decide (nth c u = x)
/-- the first continuation of a coloring -/
def colN (G : List (List Nat)) (k : Nat) : Nat → List Nat → Option (List Nat)
  | 0, c => some c
  | f + 1, c => (List.range (min k (usedN c + 1))).findSome? fun x => if badN G c x then none else colN G k f (c ++ [x])
/-- the graph's rows say who is joined with whom -/
def Gof (G : List (List Nat)) (n : Nat) (A : Nat → Nat → Prop) : Prop := ∀ v, v < n → ∀ u, u ∈ G.getD v [] ↔ u < n ∧ A u v
variable {G : List (List Nat)} {n k : Nat} {A : Nat → Nat → Prop}
theorem badN_iff (hG : Gof G n A) {c : List Nat} (hc : c.length < n) {x : Nat} : badN G c x = true ↔ ∃ u, u < c.length ∧ A u c.length ∧ nth c u = x := by
  unfold badN
  rw [List.any_eq_true]
  constructor
  · rintro ⟨u, h1, h2⟩
    rw [hG _ hc] at h1
    simp only [Bool.and_eq_true, decide_eq_true_eq] at h2
    exact ⟨u, h2.1, h1.2, h2.2⟩
  · rintro ⟨u, h1, h2, h3⟩
    refine ⟨u, (hG _ hc u).2 ⟨by omega, h2⟩, ?_⟩
    simp [h1, h3]
/-- what colN gives is a coloring with k colors -/
theorem colN_sound (hG : Gof G n A) : ∀ (f : Nat) (c c' : List Nat), c.length + f = n → (∀ i j, i < j → j < c.length → A i j → nth c i ≠ nth c j) → (∀ i, i < c.length → nth c i < k) → colN G k f c = some c' →
    c'.length = n ∧ (∀ i j, i < j → j < n → A i j → nth c' i ≠ nth c' j) ∧ (∀ i, i < n → nth c' i < k)
  | 0, c, c', hl, h1, h2, h => by
    simp only [colN, Option.some.injEq] at h
    subst h
    have : c.length = n := by omega
    subst this
    exact ⟨rfl, h1, h2⟩
  | f + 1, c, c', hl, h1, h2, h => by
    simp only [colN] at h
    obtain ⟨x, hx, hv⟩ := List.exists_of_findSome?_eq_some h
    rw [List.mem_range] at hx
    split at hv
    · cases hv
    · rename_i hb
      refine colN_sound hG f (c ++ [x]) c' (by simp; omega) (fun i j hij hj hA => ?_) (fun i hi => ?_) hv
      · simp only [List.length_append, List.length_singleton] at hj
        rcases Nat.lt_succ_iff_lt_or_eq.1 hj with hj | rfl
        · rw [nth_snoc_lt hj, nth_snoc_lt (by omega)]; exact h1 i j hij hj hA
        · rw [nth_snoc_end, nth_snoc_lt hij]
          exact fun e => hb ((badN_iff hG (by omega)).2 ⟨i, hij, hA, e⟩)
      · simp only [List.length_append, List.length_singleton] at hi
        rcases Nat.lt_succ_iff_lt_or_eq.1 hi with hi | rfl
        · rw [nth_snoc_lt hi]; exact h2 i hi
        · rw [nth_snoc_end]; omega
theorem findSome_some {α β : Type} {l : List α} {f : α → Option β} {x : α} (hx : x ∈ l) (h : f x ≠ none) : l.findSome? f ≠ none := by
  intro e
  rw [List.findSome?_eq_none_iff] at e
  exact h (e x hx)
/-- if there is a coloring, colN finds one -/
theorem colN_full (hG : Gof G n A) (χ : Nat → Nat) (hχ : ∀ i, i < n → χ i < k) (hp : ∀ i j, i < j → j < n → A i j → χ i ≠ χ j) : ∀ (f : Nat) (c : List Nat), c.length + f = n →
    (∀ i j, i < c.length → j < c.length → (nth c i = nth c j ↔ χ i = χ j)) → (∀ x, x < usedN c → ∃ i, i < c.length ∧ nth c i = x) → colN G k f c ≠ none
  | 0, c, _, _, _ => by simp [colN]
  | f + 1, c, hl, h1, h2 => by
    have hlt : ∀ i, i < c.length → nth c i < usedN c := fun i hi => usedN_lt (nth_mem c i hi)
    obtain ⟨w, hw⟩ : ∃ w : Nat → Nat, ∀ x, x < usedN c → w x < c.length ∧ nth c (w x) = x := by
      classical
      exact ⟨fun x => if h : x < usedN c then (h2 x h).choose else 0, fun x hx => by simp only [dif_pos hx]; exact (h2 x hx).choose_spec⟩
    have hnd : ((List.range (usedN c)).map fun x => χ (w x)).Nodup := by
      rw [List.nodup_iff_pairwise_ne, List.pairwise_map]
      refine List.Pairwise.imp_of_mem ?_ (List.nodup_range (n := usedN c))
      intro a b ha hb hab e
      rw [List.mem_range] at ha hb
      have := (h1 _ _ (hw a ha).1 (hw b hb).1).2 e
      rw [(hw a ha).2, (hw b hb).2] at this
      exact hab this
    have hvals : ∀ y ∈ (List.range (usedN c)).map fun x => χ (w x), y < k := fun y hy => by
      rw [List.mem_map] at hy
      obtain ⟨x, hx, rfl⟩ := hy
      rw [List.mem_range] at hx
      exact hχ _ (by have := (hw x hx).1; omega)
    simp only [colN]
    by_cases hold : ∃ i, i < c.length ∧ χ i = χ c.length
    · obtain ⟨i, hi, hie⟩ := hold
      have hU : usedN c ≤ k := by have := pigeon k _ hnd hvals; simpa using this
      have hx := hlt i hi
      refine findSome_some (x := nth c i) (List.mem_range.2 (by omega)) ?_
      have hb : badN G c (nth c i) = false := by
        cases hb : badN G c (nth c i) with
        | false => rfl
        | true =>
          obtain ⟨u, g1, g2, g3⟩ := (badN_iff hG (by omega)).1 hb
          exact absurd (((h1 u i g1 hi).1 g3).trans hie) (hp u _ g1 (by omega) g2)
      simp only [hb]
      refine colN_full hG χ hχ hp f _ (by simp; omega) (fun a b ha hb => ?_) (fun x hx => ?_)
      · simp only [List.length_append, List.length_singleton] at ha hb
        rcases Nat.lt_succ_iff_lt_or_eq.1 ha with ha | rfl <;> rcases Nat.lt_succ_iff_lt_or_eq.1 hb with hb | rfl
        · rw [nth_snoc_lt ha, nth_snoc_lt hb]; exact h1 a b ha hb
        · rw [nth_snoc_lt ha, nth_snoc_end, h1 a i ha hi, hie]
        · rw [nth_snoc_lt hb, nth_snoc_end, h1 i b hi hb, hie]
        · exact ⟨fun _ => rfl, fun _ => rfl⟩
      · rw [usedN_snoc] at hx
        obtain ⟨j, hj, e⟩ := h2 x (by omega)
        exact ⟨j, by simp; omega, by rw [nth_snoc_lt hj]; exact e⟩
    · have hnew : ∀ i, i < c.length → χ i ≠ χ c.length := fun i hi e => hold ⟨i, hi, e⟩
      have hU : usedN c + 1 ≤ k := by
        have h3 : (χ c.length :: (List.range (usedN c)).map fun x => χ (w x)).Nodup := by
          rw [List.nodup_cons]
          refine ⟨fun hm => ?_, hnd⟩
          rw [List.mem_map] at hm
          obtain ⟨x, hx, e⟩ := hm
          rw [List.mem_range] at hx
          exact hnew _ (hw x hx).1 e
        have := pigeon k _ h3 fun y hy => by
          rcases List.mem_cons.1 hy with rfl | hy
          · exact hχ _ (by omega)
          · exact hvals y hy
        simpa using this
      refine findSome_some (x := usedN c) (List.mem_range.2 (by omega)) ?_
      have hb : badN G c (usedN c) = false := by
        cases hb : badN G c (usedN c) with
        | false => rfl
        | true =>
          obtain ⟨u, g1, g2, g3⟩ := (badN_iff hG (by omega)).1 hb
          have := hlt u g1; omega
      simp only [hb]
      refine colN_full hG χ hχ hp f _ (by simp; omega) (fun a b ha hb => ?_) (fun x hx => ?_)
      · simp only [List.length_append, List.length_singleton] at ha hb
        rcases Nat.lt_succ_iff_lt_or_eq.1 ha with ha | rfl <;> rcases Nat.lt_succ_iff_lt_or_eq.1 hb with hb | rfl
        · rw [nth_snoc_lt ha, nth_snoc_lt hb]; exact h1 a b ha hb
        · rw [nth_snoc_lt ha, nth_snoc_end]
          exact ⟨fun e => absurd (hlt a ha) (by omega), fun e => absurd e (hnew a ha)⟩
        · rw [nth_snoc_lt hb, nth_snoc_end]
          exact ⟨fun e => absurd (hlt b hb) (by omega), fun e => absurd e.symm (hnew b hb)⟩
        · exact ⟨fun _ => rfl, fun _ => rfl⟩
      · rw [usedN_snoc] at hx
        rcases Nat.lt_or_ge x (usedN c) with hx' | hx'
        · obtain ⟨j, hj, e⟩ := h2 x hx'
          exact ⟨j, by simp; omega, by rw [nth_snoc_lt hj]; exact e⟩
        · obtain rfl : x = usedN c := by omega
          exact ⟨c.length, by simp, nth_snoc_end⟩
/-- a clique: vertices in ascending order, each joined with each -/
def Clq (n : Nat) (A : Nat → Nat → Prop) (K : List Nat) : Prop := (K.Pairwise fun u v => u < v ∧ A u v) ∧ ∀ u ∈ K, u < n
/-- fewer colors than a clique has vertices are too few -/
theorem colN_few (hG : Gof G n A) {K : List Nat} (hK : Clq n A K) (h : k < K.length) : colN G k n [] = none := by
  cases e : colN G k n [] with
  | none => rfl
  | some c =>
    obtain ⟨_, h1, h2⟩ := colN_sound hG n [] c (by simp) (fun i j _ hj => by simp at hj) (fun i hi => by simp at hi) e
    have hnd : (K.map fun u => nth c u).Nodup := by
      rw [List.nodup_iff_pairwise_ne, List.pairwise_map]
      refine List.Pairwise.imp_of_mem ?_ hK.1
      intro a b ha hb hab
      exact h1 a b hab.1 (hK.2 b hb) hab.2
    have := pigeon k _ hnd fun y hy => by
      rw [List.mem_map] at hy
      obtain ⟨u, hu, rfl⟩ := hy
      exact h2 u (hK.2 u hu)
    rw [List.length_map] at this
    omega
theorem colN_some (hG : Gof G n A) (χ : Nat → Nat) (hχ : ∀ i, i < n → χ i < k) (hp : ∀ i j, i < j → j < n → A i j → χ i ≠ χ j) : ∃ c, colN G k n [] = some c := by
  have := colN_full hG χ hχ hp n [] (by simp) (fun i j hi => by simp at hi) (fun x hx => by simp [usedN] at hx)
  cases e : colN G k n [] with
  | none => exact absurd e this
  | some c => exact ⟨c, rfl⟩
end Go.Proofs.Ytggcpnnmmcnogaa

open Go Go.AL
namespace Go.Proofs.Ytggcpnnmmcnogaa
set_option maxRecDepth 20000
/-! ### ranges of years -/
theorem sub_len {α : Type} [DecidableEq α] : ∀ (F K : List α), K.Nodup → (∀ x ∈ K, x ∈ F) → K.length ≤ F.length
  | [], K, _, h => by
    cases K with
    | nil => simp
    | cons a r => exact absurd (h a (by simp)) (by simp)
  | a :: F, K, hn, h => by
    by_cases ha : a ∈ K
    · have h1 := sub_len F (K.erase a) (hn.erase a) fun x hx => by
        have h2 := (hn.mem_erase_iff).1 hx
        rcases List.mem_cons.1 (h x h2.2) with e | e
        · exact absurd e h2.1
        · exact e
      rw [List.length_erase_of_mem ha] at h1
      simp only [List.length_cons]; omega
    · have h1 := sub_len F K hn fun x hx => by
        rcases List.mem_cons.1 (h x hx) with e | e
        · exact absurd (e ▸ hx) ha
        · exact e
      simp only [List.length_cons]; omega
theorem exists_max (f : Nat → Int) : ∀ s : List Nat, s ≠ [] → ∃ a, a ∈ s ∧ ∀ b ∈ s, f b ≤ f a
  | [], h => absurd rfl h
  | x :: r, _ => by
    by_cases hr : r = []
    · subst hr; exact ⟨x, by simp, fun b hb => by simp at hb; subst hb; omega⟩
    · obtain ⟨a, ha, hm⟩ := exists_max f r hr
      by_cases hx : f x ≤ f a
      · exact ⟨a, by simp [ha], fun b hb => by
          rcases List.mem_cons.1 hb with rfl | hb
          · exact hx
          · exact hm b hb⟩
      · exact ⟨x, by simp, fun b hb => by
          rcases List.mem_cons.1 hb with rfl | hb
          · omega
          · have := hm b hb; omega⟩
abbrev Yr := Int × Int
/-- valid years -/
def okY (M : Int) (a : Yr) : Prop := a.1 ≤ a.2 ∧ -M ≤ a.1 ∧ a.2 ≤ M
/-- two ranges have a common year -/
def ovB (l : List Yr) (u v : Nat) : Bool := decide ((nth l u).1 ≤ (nth l v).2) && decide ((nth l v).1 ≤ (nth l u).2)
theorem ovB_iff {l : List Yr} {u v : Nat} : ovB l u v = true ↔ (nth l u).1 ≤ (nth l v).2 ∧ (nth l v).1 ≤ (nth l u).2 := by simp [ovB]
theorem ovB_comm (l : List Yr) (u v : Nat) : ovB l u v = ovB l v u := by unfold ovB; rw [Bool.and_comm]
def Adj (l : List Yr) (u v : Nat) : Prop := u ≠ v ∧ ovB l u v = true
theorem Adj.symm {l : List Yr} {u v : Nat} (h : Adj l u v) : Adj l v u := ⟨h.1.symm, by rw [ovB_comm]; exact h.2⟩
/-- how many are in use in a year -/
def cntY (l : List Yr) (t : Int) : Nat := (l.filter fun b => decide (b.1 ≤ t) && decide (t ≤ b.2)).length
def boxN (l : List Yr) : Nat := (l.map fun a => cntY l a.1).foldl max 0
theorem foldl_max_ge (l : List Nat) : ∀ u, u ≤ l.foldl max u ∧ ∀ x ∈ l, x ≤ l.foldl max u := by
  induction l with
  | nil => intro u; simp
  | cons a r ih =>
    intro u
    obtain ⟨h1, h2⟩ := ih (max u a)
    simp only [List.foldl_cons]
    refine ⟨by omega, fun x hx => ?_⟩
    rcases List.mem_cons.1 hx with rfl | hx
    · omega
    · exact h2 x hx
theorem foldl_max_at (l : List Nat) : ∀ u, l.foldl max u = u ∨ l.foldl max u ∈ l := by
  induction l with
  | nil => intro u; simp
  | cons a r ih =>
    intro u
    simp only [List.foldl_cons]
    rcases ih (max u a) with h | h
    · rw [h]
      rcases Nat.le_total u a with h' | h'
      · rw [Nat.max_eq_right h']; exact .inr (by simp)
      · rw [Nat.max_eq_left h']; exact .inl rfl
    · exact .inr (by simp [h])
/-- the places of those in use -/
def stab (l : List Yr) (t : Int) : List Nat := (List.range l.length).filter fun i => decide ((nth l i).1 ≤ t) && decide (t ≤ (nth l i).2)
theorem map_nth (l : List Yr) : (List.range l.length).map (nth l) = l := by
  apply List.ext_getElem
  · simp
  · intro i h1 h2
    rw [List.getElem_map, List.getElem_range, nth_eq l i h2]
theorem stab_len (l : List Yr) (t : Int) : (stab l t).length = cntY l t := by
  unfold stab cntY
  conv => rhs; rw [← map_nth l]
  rw [List.filter_map, List.length_map]
  rfl
theorem stab_mem {l : List Yr} {t : Int} {i : Nat} : i ∈ stab l t ↔ i < l.length ∧ (nth l i).1 ≤ t ∧ t ≤ (nth l i).2 := by
  unfold stab; rw [List.mem_filter, List.mem_range]; simp
theorem cnt_le (l : List Yr) {i : Nat} (h : i < l.length) : cntY l (nth l i).1 ≤ boxN l :=
  (foldl_max_ge (l.map fun a => cntY l a.1) 0).2 _ (List.mem_map.2 ⟨nth l i, nth_mem l i h, rfl⟩)
theorem box_at (l : List Yr) : boxN l = 0 ∨ ∃ i, i < l.length ∧ boxN l = cntY l (nth l i).1 := by
  rcases foldl_max_at (l.map fun a => cntY l a.1) 0 with h | h
  · exact .inl h
  · rw [List.mem_map] at h
    obtain ⟨a, ha, e⟩ := h
    obtain ⟨i, hi, rfl⟩ := List.getElem_of_mem ha
    exact .inr ⟨i, hi, by rw [nth_eq l i hi]; exact e.symm⟩
/-- those in use in one year are a clique -/
theorem box_clique (l : List Yr) : ∃ K, Clq l.length (Adj l) K ∧ K.length = boxN l := by
  rcases box_at l with h | ⟨i, hi, h⟩
  · exact ⟨[], ⟨List.Pairwise.nil, by simp⟩, by rw [h]; rfl⟩
  · refine ⟨stab l (nth l i).1, ⟨?_, fun u hu => (stab_mem.1 hu).1⟩, by rw [stab_len, h]⟩
    have h1 : (stab l (nth l i).1).Pairwise (· < ·) := List.pairwise_lt_range.filter _
    refine List.Pairwise.imp_of_mem ?_ h1
    intro a b ha hb hab
    have h2 := stab_mem.1 ha
    have h3 := stab_mem.1 hb
    exact ⟨hab, by omega, ovB_iff.2 ⟨by omega, by omega⟩⟩
/-- no clique is larger -/
theorem clique_le {l : List Yr} (hv : ∀ i, i < l.length → (nth l i).1 ≤ (nth l i).2) {K : List Nat} (hK : Clq l.length (Adj l) K) : K.length ≤ boxN l := by
  by_cases h0 : K = []
  · subst h0; simp
  · obtain ⟨a, ha, hm⟩ := exists_max (fun i => (nth l i).1) K h0
    have hal := hK.2 a ha
    refine Nat.le_trans ?_ (cnt_le l hal)
    rw [← stab_len]
    have hnd : K.Nodup := hK.1.imp fun h => by omega
    refine sub_len _ _ hnd fun v hv' => ?_
    rw [stab_mem]
    refine ⟨hK.2 v hv', hm v hv', ?_⟩
    by_cases e : v = a
    · subst e; exact hv v hal
    · have hA : Adj l v a ∨ Adj l a v := by
        obtain ⟨i, hi, ei⟩ := List.getElem_of_mem hv'
        obtain ⟨j, hj, ej⟩ := List.getElem_of_mem ha
        have hp := List.pairwise_iff_getElem.1 hK.1
        rcases Nat.lt_trichotomy i j with h | h | h
        · have := (hp i j hi hj h).2; rw [ei, ej] at this; exact .inl this
        · subst h; exact absurd (ei.symm.trans ej) e
        · have := (hp j i hj hi h).2; rw [ei, ej] at this; exact .inr this
      rcases hA with h | h
      · exact (ovB_iff.1 h.2).2
      · exact (ovB_iff.1 h.2).1
/-- so many colors are enough -/
theorem greedy {l : List Yr} (hv : ∀ i, i < l.length → (nth l i).1 ≤ (nth l i).2) : ∀ (m : Nat) (s : List Nat), s.length = m → s.Nodup → (∀ i ∈ s, i < l.length) →
    ∃ χ : Nat → Nat, (∀ i ∈ s, χ i < boxN l) ∧ ∀ i ∈ s, ∀ j ∈ s, Adj l i j → χ i ≠ χ j
  | 0, s, hm, _, _ => by
    obtain rfl := List.eq_nil_of_length_eq_zero hm
    exact ⟨fun _ => 0, by simp, by simp⟩
  | m + 1, s, hm, hn, hl => by
    obtain ⟨a, ha, hmax⟩ := exists_max (fun i => (nth l i).1) s (fun e => by rw [e] at hm; cases hm)
    have her : ∀ b, b ∈ s.erase a ↔ b ≠ a ∧ b ∈ s := fun b => hn.mem_erase_iff
    obtain ⟨χ, h1, h2⟩ := greedy hv m (s.erase a) (by rw [List.length_erase_of_mem ha]; omega) (hn.erase a) fun i hi => hl i ((her i).1 hi).2
    let N := (s.erase a).filter fun b => ovB l b a
    have hN : ∀ b, b ∈ N ↔ (b ≠ a ∧ b ∈ s) ∧ ovB l b a = true := fun b => by
      show b ∈ (s.erase a).filter _ ↔ _
      rw [List.mem_filter, her]
    have hlen : N.length < boxN l := by
      have hnd : (a :: N).Nodup := by
        rw [List.nodup_cons]
        exact ⟨fun h => ((hN a).1 h).1.1 rfl, (hn.erase a).filter _⟩
      have h3 := sub_len (stab l (nth l a).1) (a :: N) hnd fun b hb => by
        rw [stab_mem]
        rcases List.mem_cons.1 hb with rfl | hb
        · exact ⟨hl b ha, Int.le_refl _, hv b (hl b ha)⟩
        · obtain ⟨⟨_, g2⟩, g3⟩ := (hN b).1 hb
          exact ⟨hl b g2, hmax b g2, (ovB_iff.1 g3).2⟩
      rw [stab_len] at h3
      have := cnt_le l (hl a ha)
      simp only [List.length_cons] at h3
      omega
    obtain ⟨c, hc, hcn⟩ : ∃ c, c < boxN l ∧ c ∉ N.map χ := by
      refine Classical.byContradiction fun h => ?_
      have h4 := sub_len (N.map χ) (List.range (boxN l)) List.nodup_range fun x hx => by
        rw [List.mem_range] at hx
        exact Classical.byContradiction fun h' => h ⟨x, hx, h'⟩
      simp at h4; omega
    have hcb : ∀ b, b ≠ a → b ∈ s → Adj l b a → χ b ≠ c := fun b g1 g2 g3 e => hcn (List.mem_map.2 ⟨b, (hN b).2 ⟨⟨g1, g2⟩, g3.2⟩, e⟩)
    refine ⟨fun i => if i = a then c else χ i, fun i hi => ?_, fun i hi j hj hA => ?_⟩
    · by_cases e : i = a
      · simp only [if_pos e]; exact hc
      · simp only [if_neg e]; exact h1 i ((her i).2 ⟨e, hi⟩)
    · by_cases e : i = a <;> by_cases e' : j = a
      · exact absurd (e.trans e'.symm) hA.1
      · simp only [if_pos e, if_neg e']
        subst e
        exact fun h => hcb j e' hj hA.symm h.symm
      · simp only [if_neg e, if_pos e']
        subst e'
        exact hcb i e hi hA
      · simp only [if_neg e, if_neg e']
        exact h2 i ((her i).2 ⟨e, hi⟩) j ((her j).2 ⟨e', hj⟩) hA
theorem box_colors {l : List Yr} (hv : ∀ i, i < l.length → (nth l i).1 ≤ (nth l i).2) {G : List (List Nat)} (hG : Gof G l.length (Adj l)) :
    (∃ c, colN G (boxN l) l.length [] = some c) ∧ ∀ k, k < boxN l → colN G k l.length [] = none := by
  obtain ⟨χ, h1, h2⟩ := greedy hv l.length (List.range l.length) (by simp) List.nodup_range fun i hi => List.mem_range.1 hi
  refine ⟨colN_some hG χ (fun i hi => h1 i (List.mem_range.2 hi)) fun i j hij hj hA => h2 i (List.mem_range.2 (by omega)) j (List.mem_range.2 hj) hA, fun k hk => ?_⟩
  obtain ⟨K, hK, e⟩ := box_clique l
  exact colN_few hG hK (by omega)
/-! ### the search for a largest clique -/
def okN (G : List (List Nat)) (set : List Nat) (v : Nat) : Bool := set.all fun u => decide (u ∈ G.getD v [])
def grwN (G : List (List Nat)) (n : Nat) : Nat → List Nat → Nat → List Nat → List Nat
  | 0, _, _, L => L
  | f + 1, set, i, L => (List.range' i (n - i)).foldl (fun L v => if okN G set v then grwN G n f (set ++ [v]) (v + 1) L else L) (if L.length < set.length then set else L)
theorem fold_mono {s : List Nat → Nat → List Nat} (hs : ∀ L v, L.length ≤ (s L v).length) : ∀ (vs : List Nat) (L : List Nat), L.length ≤ (vs.foldl s L).length
  | [], L => Nat.le_refl _
  | v :: vs, L => Nat.le_trans (hs L v) (fold_mono hs vs (s L v))
theorem grwN_mono (G : List (List Nat)) (n : Nat) : ∀ f set i L, L.length ≤ (grwN G n f set i L).length
  | 0, _, _, _ => Nat.le_refl _
  | f + 1, set, i, L => by
    simp only [grwN]
    refine Nat.le_trans ?_ (fold_mono (fun L v => ?_) _ _)
    · split <;> omega
    · split
      · exact grwN_mono G n f _ _ _
      · exact Nat.le_refl _
theorem okN_iff {G : List (List Nat)} {n : Nat} {A : Nat → Nat → Prop} (hG : Gof G n A) {set : List Nat} {v : Nat} (hv : v < n) : okN G set v = true ↔ ∀ u ∈ set, u < n ∧ A u v := by
  unfold okN
  rw [List.all_eq_true]
  refine ⟨fun h u hu => (hG v hv u).1 (by simpa using h u hu), fun h u hu => by simpa using (hG v hv u).2 (h u hu)⟩
theorem clq_snoc {n : Nat} {A : Nat → Nat → Prop} {set : List Nat} {v i : Nat} (h : Clq n A set) (hlt : ∀ u ∈ set, u < i) (hi : i ≤ v) (hv : v < n) (ho : ∀ u ∈ set, u < n ∧ A u v) : Clq n A (set ++ [v]) := by
  refine ⟨?_, fun u hu => ?_⟩
  · rw [List.pairwise_append]
    refine ⟨h.1, by simp, fun a ha b hb => ?_⟩
    simp at hb; subst hb
    have := hlt a ha
    exact ⟨by omega, (ho a ha).2⟩
  · rcases List.mem_append.1 hu with hu | hu
    · exact h.2 u hu
    · simp at hu; omega
theorem grwN_clq {G : List (List Nat)} {n : Nat} {A : Nat → Nat → Prop} (hG : Gof G n A) : ∀ f set i L, Clq n A set → (∀ u ∈ set, u < i) → grwN G n f set i L = L ∨ Clq n A (grwN G n f set i L)
  | 0, _, _, _, _, _ => .inl rfl
  | f + 1, set, i, L, hc, hlt => by
    simp only [grwN]
    have key : ∀ (vs : List Nat) (X : List Nat), (∀ v ∈ vs, i ≤ v ∧ v < n) → (X = L ∨ Clq n A X) → (vs.foldl (fun L v => if okN G set v then grwN G n f (set ++ [v]) (v + 1) L else L) X) = L ∨
        Clq n A (vs.foldl (fun L v => if okN G set v then grwN G n f (set ++ [v]) (v + 1) L else L) X) := by
      intro vs
      induction vs with
      | nil => intro X _ h; exact h
      | cons v vs ih =>
        intro X hvs h
        simp only [List.foldl_cons]
        refine ih _ (fun w hw => hvs w (by simp [hw])) ?_
        obtain ⟨g1, g2⟩ := hvs v (by simp)
        split
        · rename_i hok
          rcases grwN_clq hG f (set ++ [v]) (v + 1) X (clq_snoc hc hlt g1 g2 ((okN_iff hG g2).1 hok)) (fun u hu => by
            rcases List.mem_append.1 hu with hu | hu
            · have := hlt u hu; omega
            · simp at hu; omega) with e | e
          · rw [e]; exact h
          · exact .inr e
        · exact h
    refine key _ _ (fun v hv => ?_) ?_
    · rw [List.mem_range'_1] at hv; omega
    · split
      · exact .inr hc
      · exact .inl rfl
theorem grwN_most {G : List (List Nat)} {n : Nat} {A : Nat → Nat → Prop} (hG : Gof G n A) : ∀ f set i L t, n - i + 1 ≤ f → Clq n A (set ++ t) → (∀ u ∈ t, i ≤ u) → (set ++ t).length ≤ (grwN G n f set i L).length
  | 0, _, _, _, _, h, _, _ => by omega
  | f + 1, set, i, L, [], _, _, _ => by
    simp only [grwN, List.append_nil]
    refine Nat.le_trans ?_ (fold_mono (fun L v => ?_) _ _)
    · split <;> omega
    · split
      · exact grwN_mono G n f _ _ _
      · exact Nat.le_refl _
  | f + 1, set, i, L, v :: t, hf, hc, hi => by
    have hv : v < n := hc.2 v (by simp)
    have hiv : i ≤ v := hi v (by simp)
    have hsv : ∀ u ∈ set, u < n ∧ A u v := fun u hu => ⟨hc.2 u (by simp [hu]), ((List.pairwise_append.1 hc.1).2.2 u hu v (by simp)).2⟩
    have hvt : ∀ u ∈ t, v < u := fun u hu => ((List.pairwise_cons.1 (List.pairwise_append.1 hc.1).2.1).1 u hu).1
    simp only [grwN]
    obtain ⟨a, b, e⟩ := List.append_of_mem (List.mem_range'_1.2 (by omega : i ≤ v ∧ v < i + (n - i)))
    rw [e, List.foldl_append, List.foldl_cons, if_pos ((okN_iff hG hv).2 hsv)]
    refine Nat.le_trans ?_ (fold_mono (fun L v => ?_) _ _)
    · have := grwN_most hG f (set ++ [v]) (v + 1) (a.foldl (fun L v => if okN G set v then grwN G n f (set ++ [v]) (v + 1) L else L) (if L.length < set.length then set else L)) t (by omega)
        (by rw [List.append_assoc]; exact hc) (fun u hu => hvt u hu)
      rw [List.append_assoc] at this
      exact this
    · split
      · exact grwN_mono G n f _ _ _
      · exact Nat.le_refl _
/-- the clique that is found is as large as boxN -/
theorem clique_spec {l : List Yr} (hv : ∀ i, i < l.length → (nth l i).1 ≤ (nth l i).2) {G : List (List Nat)} (hG : Gof G l.length (Adj l)) :
    Clq l.length (Adj l) (grwN G l.length (l.length + 1) [] 0 []) ∧ (grwN G l.length (l.length + 1) [] 0 []).length = boxN l := by
  have h0 : Clq l.length (Adj l) [] := ⟨List.Pairwise.nil, by simp⟩
  have h1 : Clq l.length (Adj l) (grwN G l.length (l.length + 1) [] 0 []) := by
    rcases grwN_clq hG (l.length + 1) [] 0 [] h0 (by simp) with e | e
    · rw [e]; exact h0
    · exact e
  refine ⟨h1, Nat.le_antisymm (clique_le hv h1) ?_⟩
  obtain ⟨K, hK, e⟩ := box_clique l
  have := grwN_most hG (l.length + 1) [] 0 [] K (by omega) (by simpa using hK) (by simp)
  simpa [e] using this
end Go.Proofs.Ytggcpnnmmcnogaa

open Go Go.AL
namespace Go.Proofs.Ytggcpnnmmcnogaa
set_option maxRecDepth 20000
/-! ### the pairs with a common year, the graph of them, the years that are common to a clique -/
def allQ (n i k : Nat) : List (Nat × Nat) := ((List.range i).flatMap fun a => (List.range' (a + 1) (n - (a + 1))).map fun b => (a, b)) ++ (List.range' (i + 1) (k - (i + 1))).map fun b => (i, b)
def prO (l : List Yr) (i k : Nat) : List (Nat × Nat) := (allQ l.length i k).filter fun q => ovB l q.1 q.2
def ovs (l : List Yr) : List (Nat × Nat) := prO l l.length (l.length + 1)
theorem prO_k (l : List Yr) (i k : Nat) (h : i + 1 ≤ k) : prO l i (k + 1) = prO l i k ++ (if ovB l i k then [(i, k)] else []) := by
  unfold prO allQ
  have e : k + 1 - (i + 1) = (k - (i + 1)) + 1 := by omega
  rw [e, List.range'_1_concat, List.map_append, ← List.append_assoc, List.filter_append]
  congr 1
  have : i + 1 + (k - (i + 1)) = k := by omega
  rw [this]
  simp only [List.map_cons, List.map_nil]
  split <;> simp_all
theorem prO_i (l : List Yr) (i : Nat) : prO l (i + 1) (i + 2) = prO l i l.length := by
  unfold prO allQ
  congr 1
  rw [List.range_succ, List.flatMap_append]
  simp
theorem prO_k_pre (l : List Yr) (i k : Nat) (h : i + 1 ≤ k) : ∀ d, prO l i k <+: prO l i (k + d)
  | 0 => List.prefix_refl _
  | d + 1 => by
    refine List.IsPrefix.trans (prO_k_pre l i k h d) ?_
    rw [show k + (d + 1) = (k + d) + 1 by omega, prO_k l i (k + d) (by omega)]
    exact List.prefix_append _ _
theorem prO_pre (l : List Yr) (i k : Nat) (h : i + 1 ≤ k) (hk : k ≤ l.length) : prO l i k <+: ovs l := by
  have key : ∀ d i, i + d = l.length → i < l.length → prO l i l.length <+: ovs l := by
    intro d
    induction d with
    | zero => intro i h1 h2; omega
    | succ d ih =>
      intro i h1 h2
      rw [← prO_i]
      by_cases h3 : i + 1 < l.length
      · have h4 := prO_k_pre l (i + 1) (i + 2) (by omega) (l.length - (i + 2))
        rw [show i + 2 + (l.length - (i + 2)) = l.length by omega] at h4
        exact h4.trans (ih (i + 1) (by omega) h3)
      · have : i + 1 = l.length := by omega
        unfold ovs
        rw [← this]
        exact List.prefix_refl _
  have h1 := prO_k_pre l i k h (l.length - k)
  rw [show k + (l.length - k) = l.length by omega] at h1
  exact h1.trans (key (l.length - i) i (by omega) (by omega))
theorem ovs_mem {l : List Yr} {q : Nat × Nat} : q ∈ ovs l ↔ q.1 < q.2 ∧ q.2 < l.length ∧ ovB l q.1 q.2 = true := by
  unfold ovs prO allQ
  rw [List.mem_filter, List.mem_append, List.mem_flatMap]
  constructor
  · rintro ⟨h1 | h1, h2⟩
    · obtain ⟨a, ha, hq⟩ := h1
      rw [List.mem_map] at hq
      obtain ⟨b, hb, rfl⟩ := hq
      rw [List.mem_range] at ha
      rw [List.mem_range'_1] at hb
      exact ⟨by simp only []; omega, by simp only []; omega, h2⟩
    · rw [List.mem_map] at h1
      obtain ⟨b, hb, rfl⟩ := h1
      rw [List.mem_range'_1] at hb
      omega
  · rintro ⟨h1, h2, h3⟩
    refine ⟨.inl ⟨q.1, List.mem_range.2 (by omega), List.mem_map.2 ⟨q.2, List.mem_range'_1.2 (by omega), rfl⟩⟩, h3⟩
def lexP (a b : Nat × Nat) : Prop := a.1 < b.1 ∨ (a.1 = b.1 ∧ a.2 < b.2)
theorem ovs_pw (l : List Yr) : (ovs l).Pairwise lexP := by
  unfold ovs prO
  refine List.Pairwise.filter _ ?_
  unfold allQ
  rw [show l.length + 1 - (l.length + 1) = 0 by omega, List.range'_zero, List.map_nil, List.append_nil, List.pairwise_flatMap]
  refine ⟨fun a _ => ?_, ?_⟩
  · rw [List.pairwise_map]
    exact (List.pairwise_lt_range' (s := a + 1) (n := l.length - (a + 1))).imp fun h => .inr ⟨rfl, h⟩
  · refine List.pairwise_lt_range.imp ?_
    intro a b hab x hx y hy
    rw [List.mem_map] at hx hy
    obtain ⟨_, _, rfl⟩ := hx
    obtain ⟨_, _, rfl⟩ := hy
    exact .inl hab
theorem allQ_len (n : Nat) (hn : n ≤ 12) : ∀ i k, i ≤ n → k ≤ n + 1 → (allQ n i k).length ≤ 12 * i + 12
  | i, k, hi, hk => by
    unfold allQ
    rw [List.length_append, List.length_map, List.length_range', List.length_flatMap]
    have : ((List.range i).map fun a => ((List.range' (a + 1) (n - (a + 1))).map fun b => (a, b)).length).sum ≤ 12 * i := by
      induction i with
      | zero => simp
      | succ i ih =>
        rw [List.range_succ, List.map_append, List.sum_append]
        have := ih (by omega)
        simp only [List.map_cons, List.map_nil, List.sum_cons, List.sum_nil, List.length_map, List.length_range']
        simp only [List.length_map, List.length_range'] at this
        omega
    omega
theorem prO_len (l : List Yr) (hl : l.length ≤ 12) (i k : Nat) (hi : i ≤ l.length) (hk : k ≤ l.length + 1) : (prO l i k).length ≤ 156 := by
  have h1 := allQ_len l.length hl i k hi hk
  have h2 : (prO l i k).length ≤ (allQ l.length i k).length := List.length_filter_le _ _
  omega
/-- one more pair in the rows of a graph -/
def addE (G : List (List Nat)) (q : Nat × Nat) : List (List Nat) :=
  (G.set q.1 (G.getD q.1 [] ++ [q.2])).set q.2 ((G.set q.1 (G.getD q.1 [] ++ [q.2])).getD q.2 [] ++ [q.1])
def madeN (n : Nat) (p : List (Nat × Nat)) : List (List Nat) := p.foldl addE (List.replicate n [])
theorem addE_len (G : List (List Nat)) (q : Nat × Nat) : (addE G q).length = G.length := by simp [addE]
theorem madeN_len (n : Nat) (p : List (Nat × Nat)) : (madeN n p).length = n := by
  have key : ∀ (p : List (Nat × Nat)) (G : List (List Nat)), (p.foldl addE G).length = G.length := by
    intro p
    induction p with
    | nil => intro G; rfl
    | cons q r ih => intro G; rw [List.foldl_cons, ih, addE_len]
  unfold madeN; rw [key]; simp
theorem getD_set {α : Type} (G : List (List α)) (i v : Nat) (r : List α) : (G.set i r).getD v [] = if i = v ∧ v < G.length then r else G.getD v [] := by
  rw [List.getD_eq_getElem?_getD, List.getElem?_set, List.getD_eq_getElem?_getD]
  by_cases h : i = v
  · subst h
    by_cases hl : i < G.length
    · simp [hl]
    · simp [hl, List.getElem?_eq_none (Nat.le_of_not_lt hl)]
  · simp [h]
theorem push_mem {G : List (List Nat)} {i y u v : Nat} (h1 : i < G.length) : u ∈ (G.set i (G.getD i [] ++ [y])).getD v [] ↔ u ∈ G.getD v [] ∨ (i = v ∧ y = u) := by
  rw [getD_set]
  by_cases e : i = v
  · subst e
    rw [if_pos ⟨rfl, h1⟩, List.mem_append, List.mem_singleton]
    exact ⟨fun h => h.imp id fun h => ⟨rfl, h.symm⟩, fun h => h.imp id fun h => h.2.symm⟩
  · rw [if_neg fun h => e h.1]
    exact ⟨.inl, fun h => by rcases h with h | h; exact h; exact absurd h.1 e⟩
theorem push_len (G : List (List Nat)) (i y v : Nat) : ((G.set i (G.getD i [] ++ [y])).getD v []).length ≤ (G.getD v []).length + 1 := by
  rw [getD_set]
  split
  · rename_i h
    rw [h.1]; simp
  · omega
theorem addE_mem {G : List (List Nat)} {q : Nat × Nat} {u v : Nat} (h1 : q.1 < G.length) (h2 : q.2 < G.length) : u ∈ (addE G q).getD v [] ↔ u ∈ G.getD v [] ∨ (q.1 = v ∧ q.2 = u) ∨ (q.2 = v ∧ q.1 = u) := by
  unfold addE
  rw [push_mem (by simpa using h2), push_mem h1, or_assoc]
theorem madeN_mem {n : Nat} {u v : Nat} : ∀ {p : List (Nat × Nat)}, (∀ q ∈ p, q.1 < n ∧ q.2 < n) → (u ∈ (madeN n p).getD v [] ↔ ∃ q ∈ p, (q.1 = v ∧ q.2 = u) ∨ (q.2 = v ∧ q.1 = u)) := by
  have key : ∀ (p : List (Nat × Nat)) (G : List (List Nat)), (∀ q ∈ p, q.1 < G.length ∧ q.2 < G.length) → (u ∈ (p.foldl addE G).getD v [] ↔ u ∈ G.getD v [] ∨ ∃ q ∈ p, (q.1 = v ∧ q.2 = u) ∨ (q.2 = v ∧ q.1 = u)) := by
    intro p
    induction p with
    | nil => intro G _; simp
    | cons q r ih =>
      intro G h
      obtain ⟨h1, h2⟩ := h q (by simp)
      rw [List.foldl_cons, ih (addE G q) (fun x hx => by rw [addE_len]; exact h x (by simp [hx])), addE_mem h1 h2]
      simp only [List.mem_cons, exists_eq_or_imp]
      constructor
      · rintro ((h | h) | h)
        · exact .inl h
        · exact .inr (.inl h)
        · exact .inr (.inr h)
      · rintro (h | h | h)
        · exact .inl (.inl h)
        · exact .inl (.inr h)
        · exact .inr h
  intro p hp
  unfold madeN
  rw [key p _ (by simpa using hp)]
  have : u ∉ (List.replicate n ([] : List Nat)).getD v [] := by
    rw [List.getD_eq_getElem?_getD, List.getElem?_replicate]
    split <;> simp
  exact ⟨fun h => h.resolve_left this, .inr⟩
theorem made_gof (l : List Yr) : Gof (madeN l.length (ovs l)) l.length (Adj l) := by
  intro v hv u
  rw [madeN_mem fun q hq => by have := ovs_mem.1 hq; omega]
  constructor
  · rintro ⟨q, hq, h⟩
    obtain ⟨g1, g2, g3⟩ := ovs_mem.1 hq
    rcases h with ⟨rfl, rfl⟩ | ⟨rfl, rfl⟩
    · exact ⟨g2, by omega, by rw [ovB_comm]; exact g3⟩
    · exact ⟨by omega, by omega, g3⟩
  · rintro ⟨h1, h2, h3⟩
    rcases Nat.lt_trichotomy u v with h | h | h
    · exact ⟨(u, v), ovs_mem.2 ⟨h, hv, h3⟩, .inr ⟨rfl, rfl⟩⟩
    · exact absurd h h2
    · exact ⟨(v, u), ovs_mem.2 ⟨h, h1, by rw [ovB_comm]; exact h3⟩, .inl ⟨rfl, rfl⟩⟩
theorem madeN_row (n : Nat) (p : List (Nat × Nat)) (v : Nat) : ((madeN n p).getD v []).length ≤ 2 * p.length := by
  have key : ∀ (p : List (Nat × Nat)) (G : List (List Nat)), ((p.foldl addE G).getD v []).length ≤ (G.getD v []).length + 2 * p.length := by
    intro p
    induction p with
    | nil => intro G; simp
    | cons q r ih =>
      intro G
      have h1 := ih (addE G q)
      have h2 : ((addE G q).getD v []).length ≤ (G.getD v []).length + 2 := by
        have g1 := push_len (G.set q.1 (G.getD q.1 [] ++ [q.2])) q.2 q.1 v
        have g2 := push_len G q.1 q.2 v
        unfold addE
        omega
      simp only [List.foldl_cons, List.length_cons]
      omega
  have := key p (List.replicate n [])
  have h0 : ((List.replicate n ([] : List Nat)).getD v []).length = 0 := by
    rw [List.getD_eq_getElem?_getD, List.getElem?_replicate]
    split <;> simp
  unfold madeN
  omega
/-- the years that are common to the first k of a list -/
def mtC (M : Int) (l : List Yr) (c : List Nat) : Nat → Yr
  | 0 => (-M, M)
  | k + 1 => (max (mtC M l c k).1 (nth l (nth c k)).1, min (mtC M l c k).2 (nth l (nth c k)).2)
theorem clq_ov {l : List Yr} (hv : ∀ i, i < l.length → (nth l i).1 ≤ (nth l i).2) {c : List Nat} (hc : Clq l.length (Adj l) c) {u v : Nat} (hu : u ∈ c) (hw : v ∈ c) : (nth l u).1 ≤ (nth l v).2 := by
  by_cases e : u = v
  · subst e; exact hv u (hc.2 u hu)
  · obtain ⟨i, hi, rfl⟩ := List.getElem_of_mem hu
    obtain ⟨j, hj, rfl⟩ := List.getElem_of_mem hw
    have hp := List.pairwise_iff_getElem.1 hc.1
    rcases Nat.lt_trichotomy i j with h | h | h
    · exact (ovB_iff.1 (hp i j hi hj h).2.2).1
    · subst h; exact absurd rfl e
    · exact (ovB_iff.1 (hp j i hj hi h).2.2).2
theorem mtC_ok {M : Int} (hM : 0 ≤ M) {l : List Yr} (hv : ∀ i, i < l.length → okY M (nth l i)) {c : List Nat} (hc : Clq l.length (Adj l) c) : ∀ k, k ≤ c.length → okY M (mtC M l c k) ∧ ∀ u ∈ c, (mtC M l c k).1 ≤ (nth l u).2 ∧ (nth l u).1 ≤ (mtC M l c k).2
  | 0, _ => by
    refine ⟨⟨by simp only [mtC]; omega, by simp only [mtC]; omega, by simp only [mtC]; omega⟩, fun u hu => ?_⟩
    obtain ⟨h1, h2, h3⟩ := hv u (hc.2 u hu)
    simp only [mtC]
    omega
  | k + 1, hk => by
    obtain ⟨⟨h1, h2, h3⟩, h4⟩ := mtC_ok hM hv hc k (by omega)
    have hm := nth_mem c k (by omega)
    obtain ⟨g1, g2, g3⟩ := hv _ (hc.2 _ hm)
    obtain ⟨g4, g5⟩ := h4 _ hm
    refine ⟨⟨by simp only [mtC]; omega, by simp only [mtC]; omega, by simp only [mtC]; omega⟩, fun u hu => ?_⟩
    obtain ⟨g6, g7⟩ := h4 _ hu
    have g8 := clq_ov (fun i hi => (hv i hi).1) hc hm hu
    have g9 := clq_ov (fun i hi => (hv i hi).1) hc hu hm
    simp only [mtC]
    omega
end Go.Proofs.Ytggcpnnmmcnogaa

