/-
  Lemmas for the proof: no statement of its own.
-/
import Derived.Test.YtlomngideedobaaPlainC
set_option linter.unusedVariables false
set_option linter.unusedSimpArgs false
-- P p_14.txt
open Go Go.AL Go.RowKit
namespace Go.Proofs.Ytlomngideedobaa
set_option maxRecDepth 20000
/-! ### all components -/
theorem numV_sub {l m : List Int} (h : numV l = true) (hs : m.Sublist l) : numV m = true := by
  have ha : ascV l = true := by unfold numV at h; simp only [Bool.and_eq_true] at h; exact h.1
  have hp := (ascV_asc ha).sublist hs
  have hb : ∀ x ∈ l, 1 ≤ x ∧ x ≤ 999 := fun x hx => by
    obtain ⟨i, hi, rfl⟩ := List.getElem_of_mem hx
    unfold ascV at ha
    simp only [decide_eq_true_eq] at ha
    have := ha i hi
    rw [nth_eq l i hi] at this
    exact ⟨this.1, this.2.1⟩
  unfold numV at h ⊢
  simp only [Bool.and_eq_true, decide_eq_true_eq] at h ⊢
  refine ⟨?_, Nat.le_trans hs.length_le h.2⟩
  unfold ascV
  simp only [decide_eq_true_eq]
  intro i hi
  have := hb _ (hs.mem (nth_mem' m i hi))
  refine ⟨this.1, this.2, fun h0 => ?_⟩
  rw [nth_eq m (i - 1) (by omega), nth_eq m i hi]
  exact List.pairwise_iff_getElem.1 hp (i - 1) i (by omega) hi (by omega)
section
variable {g : Gr} {k : Nat}
end
end Go.Proofs.Ytlomngideedobaa

