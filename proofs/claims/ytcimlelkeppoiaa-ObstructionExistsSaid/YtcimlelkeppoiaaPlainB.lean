/-
  Lemmas for the proof: no statement of its own.
-/
import Derived.Test.YtcimlelkeppoiaaPlainA
set_option linter.unusedVariables false
set_option linter.unusedSimpArgs false
open Go Go.AL
namespace Go.Proofs.Ytcimlelkeppoiaa
set_option maxRecDepth 100000
theorem chk_5a : chkS 5 (sh5.getD 0 a0) = true := by decide +kernel
end Go.Proofs.Ytcimlelkeppoiaa

