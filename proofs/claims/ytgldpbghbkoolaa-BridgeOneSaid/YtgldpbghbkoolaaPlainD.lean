/-
  Lemmas for the proof: no statement of its own.
-/
import Derived.Test.YtgldpbghbkoolaaWalkF
import Derived.Test.YtgldpbghbkoolaaWalkJ
set_option linter.unusedVariables false
set_option linter.unusedSimpArgs false
-- P p_15.txt
open Go Go.AL Go.RowKit
namespace Go.Proofs.Ytgldpbghbkoolaa
set_option maxRecDepth 20000
/-! ### one link less -/
theorem cutN_set {es : Es} {gone : List Bool} {j : Nat} (hj : j < es.length) (hl : gone.length = es.length) (T : Nat → Bool) :
    cutN es gone T = cutN es (gone.set j true) T + if nth gone j = false ∧ T (nth es j).1 ≠ T (nth es j).2 then 1 else 0 := by
  unfold cutN
  rw [sumI_upd (f := fun k => if nth gone k = false ∧ T (nth es k).1 ≠ T (nth es k).2 then 1 else 0) (g := fun k => if nth (gone.set j true) k = false ∧ T (nth es k).1 ≠ T (nth es k).2 then 1 else 0) (k := j) es.length hj fun i hi => by
    rw [nth_setN _ _ _ _ (by omega), if_neg hi]]
  rw [nth_setN _ _ _ _ (by omega), if_pos rfl, if_neg (by simp)]
  omega
theorem mc_set {es : Es} {gone : List Bool} {a b j : Nat} {v w : Int} (hj : j < es.length) (hl : gone.length = es.length) (hv : IsMC es gone a b v) (hw : IsMC es (gone.set j true) a b w) : w ≤ v ∧ v ≤ w + 1 := by
  obtain ⟨⟨T, t1, t2, t3⟩, h2⟩ := hv
  obtain ⟨⟨U, u1, u2, u3⟩, k2⟩ := hw
  have a1 := cutN_set hj hl T
  have a2 := cutN_set hj hl U
  have a3 := k2 T t1 t2
  have a4 := h2 U u1 u2
  constructor
  · split at a1 <;> omega
  · split at a2 <;> omega
/-! ### the links of the first least cut -/
theorem goneL_len (ls : List Lk) (out : List Int) : (goneL ls out).length = ls.length := by simp [goneL]
theorem list_ext_nth {α : Type} [Inhabited α] {a b : List α} (hl : a.length = b.length) (h : ∀ j, j < a.length → nth a j = nth b j) : a = b := by
  apply List.ext_getElem hl
  intro i h1 h2
  have := h i h1
  rwa [nth_eq a i h1, nth_eq b i h2] at this
theorem id_inj {ls : List Lk} (hp : ls.Pairwise fun x y => x.id < y.id) {i j : Nat} (hi : i < ls.length) (hj : j < ls.length) (h : (nth ls i).id = (nth ls j).id) : i = j := by
  rcases Nat.lt_trichotomy i j with h1 | h1 | h1
  · have := List.pairwise_iff_getElem.1 hp i j hi hj h1
    rw [nth_eq _ i hi, nth_eq _ j hj] at h; omega
  · exact h1
  · have := List.pairwise_iff_getElem.1 hp j i hj hi h1
    rw [nth_eq _ i hi, nth_eq _ j hj] at h; omega
theorem goneL_set {ls : List Lk} (hp : ls.Pairwise fun x y => x.id < y.id) (out : List Int) {j : Nat} (hj : j < ls.length) : (goneL ls out).set j true = goneL ls (out ++ [(nth ls j).id]) := by
  refine list_ext_nth (by simp [goneL]) fun k hk => ?_
  have hk' : k < ls.length := by simpa [goneL] using hk
  rw [nth_setN _ _ _ _ (by rw [goneL_len]; exact hj), goneL_nth _ _ _ hk', goneL_nth _ _ _ hk']
  by_cases e : k = j
  · subst e; simp
  · have : (nth ls k).id ≠ (nth ls j).id := fun h => e (id_inj hp hk' hj h)
    simp [e, this]
theorem goneL_back {ls : List Lk} (hp : ls.Pairwise fun x y => x.id < y.id) {out : List Int} {j : Nat} (hj : j < ls.length) (ho : (nth ls j).id ∉ out) : (goneL ls (out ++ [(nth ls j).id])).set j false = goneL ls out := by
  refine list_ext_nth (by simp [goneL]) fun k hk => ?_
  have hk' : k < ls.length := by simpa [goneL] using hk
  rw [nth_setN _ _ _ _ (by rw [goneL_len]; exact hj), goneL_nth _ _ _ hk', goneL_nth _ _ _ hk']
  by_cases e : k = j
  · subst e; simp [ho]
  · have : (nth ls k).id ≠ (nth ls j).id := fun h => e (id_inj hp hk' hj h)
    simp [e, this]
theorem goneL_nil (g : Gr) : goneL g.links [] = noG g := by unfold goneL noG; simp [List.map_const']
/-- bridge.Cut, link by link -/
def cutI (g : Gr) (a b : Die) (n : Int) : Nat → List Int
  | 0 => []
  | j + 1 => if ((cutI g a b n j).length : Int) < n ∧ flowM g (goneL g.links (cutI g a b n j ++ [(nth g.links j).id])) a b < n - (cutI g a b n j).length then cutI g a b n j ++ [(nth g.links j).id] else cutI g a b n j
theorem cutI_len (g : Gr) (a b : Die) (n : Int) : ∀ j, (cutI g a b n j).length ≤ j
  | 0 => Nat.le_refl _
  | j + 1 => by
    have := cutI_len g a b n j
    simp only [cutI]
    split
    · simp; omega
    · omega
theorem cutI_stop (g : Gr) (a b : Die) (n : Int) {j : Nat} (h : ¬ ((cutI g a b n j).length : Int) < n) : ∀ m, j ≤ m → cutI g a b n m = cutI g a b n j
  | 0, hm => by obtain rfl : j = 0 := by omega
                rfl
  | m + 1, hm => by
    by_cases e : j = m + 1
    · subst e; rfl
    · have ih := cutI_stop g a b n h m (by omega)
      simp only [cutI]
      rw [ih, if_neg (fun h' => h h'.1)]
theorem cutI_mem (g : Gr) (a b : Die) (n : Int) : ∀ j, j ≤ g.links.length → ∀ x ∈ cutI g a b n j, ∃ i, i < j ∧ x = (nth g.links i).id
  | 0, _, x, hx => by cases hx
  | j + 1, hj, x, hx => by
    simp only [cutI] at hx
    split at hx
    · rcases List.mem_append.1 hx with hx | hx
      · obtain ⟨i, hi, e⟩ := cutI_mem g a b n j (by omega) x hx
        exact ⟨i, by omega, e⟩
      · simp at hx; exact ⟨j, by omega, hx⟩
    · obtain ⟨i, hi, e⟩ := cutI_mem g a b n j (by omega) x hx
      exact ⟨i, by omega, e⟩
theorem cutI_new {g : Gr} (hv : validG g = true) (a b : Die) (n : Int) (j : Nat) (hj : j < g.links.length) : (nth g.links j).id ∉ cutI g a b n j := fun h => by
  obtain ⟨i, hi, e⟩ := cutI_mem g a b n j (by omega) _ h
  have := id_inj (valid_ids hv) hj (by omega) e
  omega
section
variable {g : Gr} {a b : Die} (hv : validG g = true) (ha : a ∈ diesG g) (hb : b ∈ diesG g) (hab : a ≠ b)
include hv ha hb hab
theorem flow_less (out : List Int) {j : Nat} (hj : j < g.links.length) : flowM g (goneL g.links (out ++ [(nth g.links j).id])) a b ≤ flowM g (goneL g.links out) a b ∧ flowM g (goneL g.links out) a b ≤ flowM g (goneL g.links (out ++ [(nth g.links j).id])) a b + 1 := by
  have h1 := flow_mc (goneL g.links out) hv ha hb hab
  have h2 := flow_mc (goneL g.links (out ++ [(nth g.links j).id])) hv ha hb hab
  rw [← goneL_set (valid_ids hv) out hj] at h2 ⊢
  exact mc_set (by rw [esG_len]; exact hj) (by rw [esG_len, goneL_len]) h1 h2
theorem cutI_flow : ∀ j, j ≤ g.links.length → flowM g (goneL g.links (cutI g a b (flowM g (noG g) a b) j)) a b = flowM g (noG g) a b - (cutI g a b (flowM g (noG g) a b) j).length
  | 0, _ => by simp only [cutI, goneL_nil]; simp
  | j + 1, hj => by
    have ih := cutI_flow j (by omega)
    have hl := flow_less hv ha hb hab (cutI g a b (flowM g (noG g) a b) j) (by omega : j < g.links.length)
    simp only [cutI]
    split
    · rename_i hc
      simp only [List.length_append, List.length_cons, List.length_nil]
      omega
    · exact ih
/-- the reference asks otherwise -/
theorem cutI_ref {j : Nat} (hj : j < g.links.length) : (flowM g (goneL g.links (cutI g a b (flowM g (noG g) a b) j ++ [(nth g.links j).id])) a b < flowM g (noG g) a b - (cutI g a b (flowM g (noG g) a b) j).length) ↔ flowM g (goneL g.links (cutI g a b (flowM g (noG g) a b) j ++ [(nth g.links j).id])) a b = flowM g (noG g) a b - ((cutI g a b (flowM g (noG g) a b) j).length + 1 : Nat) := by
  have ih := cutI_flow hv ha hb hab j (by omega)
  have hl := flow_less hv ha hb hab (cutI g a b (flowM g (noG g) a b) j) hj
  omega
end
def cutV (g : Gr) (a b : Die) : List Int := if flowE g a b = 0 then cutI g a b (flowM g (noG g) a b) g.links.length else []
end Go.Proofs.Ytgldpbghbkoolaa

