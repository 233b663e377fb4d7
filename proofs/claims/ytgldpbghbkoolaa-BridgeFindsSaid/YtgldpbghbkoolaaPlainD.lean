/-
  Lemmas for the proof: no statement of its own.
-/
import Derived.Test.YtgldpbghbkoolaaWalkF
import Derived.Test.YtgldpbghbkoolaaWalkJ
set_option linter.unusedVariables false
set_option linter.unusedSimpArgs false
-- P p_15.txt
open Go Go.AL Go.RowKit
namespace Go.Proofs.Ytgldpbghbkoolaa
set_option maxRecDepth 20000
/-! ### one link less -/
/-! ### the links of the first least cut -/
theorem id_inj {ls : List Lk} (hp : ls.Pairwise fun x y => x.id < y.id) {i j : Nat} (hi : i < ls.length) (hj : j < ls.length) (h : (nth ls i).id = (nth ls j).id) : i = j := by
  rcases Nat.lt_trichotomy i j with h1 | h1 | h1
  · have := List.pairwise_iff_getElem.1 hp i j hi hj h1
    rw [nth_eq _ i hi, nth_eq _ j hj] at h; omega
  · exact h1
  · have := List.pairwise_iff_getElem.1 hp j i hj hi h1
    rw [nth_eq _ i hi, nth_eq _ j hj] at h; omega
section
variable {g : Gr} {a b : Die} (hv : validG g = true) (ha : a ∈ diesG g) (hb : b ∈ diesG g) (hab : a ≠ b)
include hv ha hb hab
end
end Go.Proofs.Ytgldpbghbkoolaa

