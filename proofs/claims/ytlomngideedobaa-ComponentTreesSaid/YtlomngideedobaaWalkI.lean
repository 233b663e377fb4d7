/-
  Lemmas for the proof: no statement of its own.
-/
import Derived.Test.YtlomngideedobaaWalkG
import Derived.Test.YtlomngideedobaaWalkE
import Derived.Test.YtlomngideedobaaWalkH
set_option linter.unusedVariables false
set_option linter.unusedSimpArgs false
-- P p_14.txt
open Go Go.AL Go.RowKit
namespace Go.Proofs.Ytlomngideedobaa
set_option maxRecDepth 20000
/-! ### the graph of a component -/
end Go.Proofs.Ytlomngideedobaa

