/-
  Lemmas for the proof: no statement of its own.
-/
import Derived.Test.YtgldpbghbkoolaaWalkF
import Derived.Test.YtgldpbghbkoolaaWalkJ
set_option linter.unusedVariables false
set_option linter.unusedSimpArgs false
-- P p_15.txt
open Go Go.AL Go.RowKit
namespace Go.Proofs.Ytgldpbghbkoolaa
set_option maxRecDepth 20000
/-! ### one link less -/
/-! ### the links of the first least cut -/
section
variable {g : Gr} {a b : Die} (hv : validG g = true) (ha : a ∈ diesG g) (hb : b ∈ diesG g) (hab : a ≠ b)
include hv ha hb hab
end
end Go.Proofs.Ytgldpbghbkoolaa

