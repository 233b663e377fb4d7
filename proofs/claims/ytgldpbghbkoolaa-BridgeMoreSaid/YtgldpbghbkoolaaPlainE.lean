/-
  Lemmas for the proof: no statement of its own.
-/
import Derived.Test.YtgldpbghbkoolaaPlainD
import Derived.Test.YtgldpbghbkoolaaPlainB
set_option linter.unusedVariables false
set_option linter.unusedSimpArgs false
-- P p_15.txt
open Go Go.AL Go.RowKit
namespace Go.Proofs.Ytgldpbghbkoolaa
set_option maxRecDepth 20000
/-! ### dies that are joined without some links -/
def notIn (out : List Int) (ls : List Lk) : List Lk := ls.filter fun x => decide (x.id ∉ out)
/-! ### the least cut in plain words -/
theorem cutN_not (es : Es) (gone : List Bool) (T : Nat → Bool) : cutN es gone (fun v => !T v) = cutN es gone T := by
  unfold cutN
  refine sumI_congr _ fun k _ => ?_
  have : ((!T (nth es k).1) ≠ (!T (nth es k).2)) ↔ T (nth es k).1 ≠ T (nth es k).2 := by
    cases T (nth es k).1 <;> cases T (nth es k).2 <;> simp
  simp only [this]
theorem IsMC.symm {es : Es} {gone : List Bool} {a b : Nat} {v : Int} (h : IsMC es gone a b v) : IsMC es gone b a v := by
  obtain ⟨⟨T, t1, t2, t3⟩, h2⟩ := h
  refine ⟨⟨fun v => !T v, by simp [t2], by simp [t1], by rw [cutN_not]; exact t3⟩, fun U u1 u2 => ?_⟩
  rw [← cutN_not]
  exact h2 _ (by simp [u2]) (by simp [u1])
theorem esG_nth {g : Gr} (hv : validG g = true) {k : Nat} (hk : k < g.links.length) : nth (esG g) k = (plN (diesG g) (nth g.links k).o, plN (diesG g) (nth g.links k).r) := by
  rw [esG_eq hv, esD_nth _ _ _ hk]
section
variable {g : Gr} {a b : Die} (hv : validG g = true)
include hv
end
end Go.Proofs.Ytgldpbghbkoolaa

