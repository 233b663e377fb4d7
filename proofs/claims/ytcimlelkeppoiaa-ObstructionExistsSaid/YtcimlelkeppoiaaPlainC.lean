/-
  Lemmas for the proof: no statement of its own.
-/
import Derived.Test.YtcimlelkeppoiaaPlainA
set_option linter.unusedVariables false
set_option linter.unusedSimpArgs false
open Go Go.AL
namespace Go.Proofs.Ytcimlelkeppoiaa
set_option maxRecDepth 100000
theorem chk_5b : ((sh5.drop 1).take 16).all (chkS 5) = true := by decide +kernel
end Go.Proofs.Ytcimlelkeppoiaa

