/-
  No cell of these rows narrows 'for every input' (looked for: loops, veiled, ifaces, maps, wideKeys, modest, calm, conditions, laid).
  DERIVED. THE GIVEN ROWS OF THIS SEAT. 5 by the template 'for every input the law returns true; each argument reads behind the call as it read before'; 0 by the template 'total and deterministic' (their statements: YtjffjapajfhjhaaTotals.lean).
  GIVEN WITH THE SEED: the statements are not yours to turn. If you find one false, say at which input.
  Laid BY PROGRAM, IN A SANDBOX (cutbox-rows.mjs): the forced cells as the released guide's own fill.sh prints them over the translation 7d35e28e2fe23597… (all of the seat's roots in one cut). By AI agents, Wed Nov 11 2026. No macro, syntax, notation, axiom, sorry.
-/
import Derived.Test.YtjffjapajfhjhaaChecked
import GoSem.Claim
import GoSem.ClaimJoined
import GoSem.ClaimMapViews
import Derived.JoinedTies
import Derived.KernelRfl
namespace Go.Proofs.Ytjffjapajfhjhaa
/- THE CELL 'sum', in the pinned program and in every row, IS THE sha256 OF THE DUMP (.gsa) THAT YtjffjapajfhjhaaProg.lean LOADS. Nothing in Lean hashes anything: it is a label: what it is worth is what the hold of that sum in a sandbox is worth. -/
noncomputable def Try.pinned : Pinned := { name := "ytjffjapajfhjhaa", sum := "7d35e28e2fe23597e42a16c4b2da4d256e66a604a70b9fddc029b7897d6c4569", checked := Try.checked }
namespace Rows
def none {H : Type} : Left H := { results := [], args := [] }

/-- 'coinagelaw29.ObstructionCuts': WHATEVER THE INPUT: true; the input reads as it did. -/
def obstructionCutsSpec : ChangeSpec := { name := "obstructionCuts", fn := fun _ => fun
  | [d1, d2, d3] => { results := [.lit (.bool true)], args := [d1, d2, d3] }
  | _ => none }
def obstructionCutsRow : OpenClaim := { program := "ytjffjapajfhjhaa", sum := "7d35e28e2fe23597e42a16c4b2da4d256e66a604a70b9fddc029b7897d6c4569", func := "coinage/coinagelaw29.ObstructionCuts", spec := "obstructionCuts", unfollowed := true, recurses := true, apart := false }
def ObstructionCutsSaid : Prop := obstructionCutsRow.holds Try.pinned (OpenSpec.ofChange obstructionCutsSpec)

/-- ITS FALSE NEIGHBOUR: 'it returns false'. Refute it at one input. -/
def obstructionCutsWrong : ChangeSpec := { name := "obstructionCuts", fn := fun _ => fun
  | [d1, d2, d3] => { results := [.lit (.bool false)], args := [d1, d2, d3] }
  | _ => none }
def ObstructionCutsWrongFalsely : Prop := obstructionCutsRow.holds Try.pinned (OpenSpec.ofChange obstructionCutsWrong)

/-- 'coinagelaw29.ObstructionGrows': WHATEVER THE INPUT: true; the input reads as it did. -/
def obstructionGrowsSpec : ChangeSpec := { name := "obstructionGrows", fn := fun _ => fun
  | [d1, d2, d3] => { results := [.lit (.bool true)], args := [d1, d2, d3] }
  | _ => none }
def obstructionGrowsRow : OpenClaim := { program := "ytjffjapajfhjhaa", sum := "7d35e28e2fe23597e42a16c4b2da4d256e66a604a70b9fddc029b7897d6c4569", func := "coinage/coinagelaw29.ObstructionGrows", spec := "obstructionGrows", unfollowed := true, recurses := true, apart := false }
def ObstructionGrowsSaid : Prop := obstructionGrowsRow.holds Try.pinned (OpenSpec.ofChange obstructionGrowsSpec)

/-- ITS FALSE NEIGHBOUR: 'it returns false'. Refute it at one input. -/
def obstructionGrowsWrong : ChangeSpec := { name := "obstructionGrows", fn := fun _ => fun
  | [d1, d2, d3] => { results := [.lit (.bool false)], args := [d1, d2, d3] }
  | _ => none }
def ObstructionGrowsWrongFalsely : Prop := obstructionGrowsRow.holds Try.pinned (OpenSpec.ofChange obstructionGrowsWrong)

/-- 'coinagelaw29.ObstructionSizes': WHATEVER THE INPUT: true; the input reads as it did. -/
def obstructionSizesSpec : ChangeSpec := { name := "obstructionSizes", fn := fun _ => fun
  | [d1, d2] => { results := [.lit (.bool true)], args := [d1, d2] }
  | _ => none }
def obstructionSizesRow : OpenClaim := { program := "ytjffjapajfhjhaa", sum := "7d35e28e2fe23597e42a16c4b2da4d256e66a604a70b9fddc029b7897d6c4569", func := "coinage/coinagelaw29.ObstructionSizes", spec := "obstructionSizes", unfollowed := true, recurses := true, apart := false }
def ObstructionSizesSaid : Prop := obstructionSizesRow.holds Try.pinned (OpenSpec.ofChange obstructionSizesSpec)

/-- ITS FALSE NEIGHBOUR: 'it returns false'. Refute it at one input. -/
def obstructionSizesWrong : ChangeSpec := { name := "obstructionSizes", fn := fun _ => fun
  | [d1, d2] => { results := [.lit (.bool false)], args := [d1, d2] }
  | _ => none }
def ObstructionSizesWrongFalsely : Prop := obstructionSizesRow.holds Try.pinned (OpenSpec.ofChange obstructionSizesWrong)

/-- 'coinagelaw29.ObstructionFinds': WHATEVER THE INPUT: true; the input reads as it did. -/
def obstructionFindsSpec : ChangeSpec := { name := "obstructionFinds", fn := fun _ => fun
  | [d1, d2] => { results := [.lit (.bool true)], args := [d1, d2] }
  | _ => none }
def obstructionFindsRow : OpenClaim := { program := "ytjffjapajfhjhaa", sum := "7d35e28e2fe23597e42a16c4b2da4d256e66a604a70b9fddc029b7897d6c4569", func := "coinage/coinagelaw29.ObstructionFinds", spec := "obstructionFinds", unfollowed := true, recurses := true, apart := false }
def ObstructionFindsSaid : Prop := obstructionFindsRow.holds Try.pinned (OpenSpec.ofChange obstructionFindsSpec)

/-- ITS FALSE NEIGHBOUR: 'it returns false'. Refute it at one input. -/
def obstructionFindsWrong : ChangeSpec := { name := "obstructionFinds", fn := fun _ => fun
  | [d1, d2] => { results := [.lit (.bool false)], args := [d1, d2] }
  | _ => none }
def ObstructionFindsWrongFalsely : Prop := obstructionFindsRow.holds Try.pinned (OpenSpec.ofChange obstructionFindsWrong)

/-- 'coinagelaw29.ObstructionFewest': WHATEVER THE INPUT: true; the input reads as it did. -/
def obstructionFewestSpec : ChangeSpec := { name := "obstructionFewest", fn := fun _ => fun
  | [d1, d2, d3] => { results := [.lit (.bool true)], args := [d1, d2, d3] }
  | _ => none }
def obstructionFewestRow : OpenClaim := { program := "ytjffjapajfhjhaa", sum := "7d35e28e2fe23597e42a16c4b2da4d256e66a604a70b9fddc029b7897d6c4569", func := "coinage/coinagelaw29.ObstructionFewest", spec := "obstructionFewest", unfollowed := true, recurses := true, apart := false }
def ObstructionFewestSaid : Prop := obstructionFewestRow.holds Try.pinned (OpenSpec.ofChange obstructionFewestSpec)

/-- ITS FALSE NEIGHBOUR: 'it returns false'. Refute it at one input. -/
def obstructionFewestWrong : ChangeSpec := { name := "obstructionFewest", fn := fun _ => fun
  | [d1, d2, d3] => { results := [.lit (.bool false)], args := [d1, d2, d3] }
  | _ => none }
def ObstructionFewestWrongFalsely : Prop := obstructionFewestRow.holds Try.pinned (OpenSpec.ofChange obstructionFewestWrong)

/- THE SECOND FORM. 'bulk': how many values and letters a reading holds, each counted each time it is reached (what is shared counts as often as it is met; a slice's spare places count too). A statement '..UptoSaid' is the law's where the arguments, and the package variables that the reading takes, are together of bulk at most 1048576: NARROWER than '..Said'. Prove '..Said' where nothing that the law and all that it calls make is longer than what came in: it says more and counts as full. Else prove '..UptoSaid'. A law counts once. -/
mutual
def uptoBulk {H : Type} : DataW H → Nat
  | .lit (.string bytes) => bytes.length + 1
  | .lit _ => 1
  | .nil => 1
  | .ptr d => uptoBulk d + 1
  | .slice elems spare => uptoBulkAll elems + uptoBulkAll spare + 1
  | .agg parts => uptoBulkAll parts + 1
  | .iface _ d => uptoBulk d + 1
  | .map entries => uptoBulkEntries entries + 1
  | .held _ => 1
def uptoBulkAll {H : Type} : List (DataW H) → Nat
  | [] => 0
  | d :: r => uptoBulk d + uptoBulkAll r
def uptoBulkEntries {H : Type} : List (Lit × DataW H) → Nat
  | [] => 0
  | x :: r => uptoBulkEntry x + uptoBulkEntries r
def uptoBulkEntry {H : Type} : Lit × DataW H → Nat
  | (.string bytes, d) => bytes.length + uptoBulk d + 1
  | (_, d) => uptoBulk d + 1
 end
def uptoSmall : (H : Type) → List (DataW H) → Bool := fun _ ds => decide (uptoBulkAll ds ≤ 1048576)
def OpenSpec.upto (s : _root_.Go.ChangeSpec) : _root_.Go.OpenSpec := { _root_.Go.OpenSpec.ofChange s with cond := some uptoSmall }

/-- 'coinagelaw29.ObstructionCuts', WHERE WHAT IT READS IS OF BULK AT MOST 1048576: true; the input reads as it did. -/
def obstructionCutsUptoRow : OpenClaim := { program := "ytjffjapajfhjhaa", sum := "7d35e28e2fe23597e42a16c4b2da4d256e66a604a70b9fddc029b7897d6c4569", func := "coinage/coinagelaw29.ObstructionCuts", spec := "obstructionCuts", unfollowed := true, recurses := true, apart := false, narrowed := true }
def ObstructionCutsUptoSaid : Prop := obstructionCutsUptoRow.holds Try.pinned (OpenSpec.upto obstructionCutsSpec)

/-- 'coinagelaw29.ObstructionGrows', WHERE WHAT IT READS IS OF BULK AT MOST 1048576: true; the input reads as it did. -/
def obstructionGrowsUptoRow : OpenClaim := { program := "ytjffjapajfhjhaa", sum := "7d35e28e2fe23597e42a16c4b2da4d256e66a604a70b9fddc029b7897d6c4569", func := "coinage/coinagelaw29.ObstructionGrows", spec := "obstructionGrows", unfollowed := true, recurses := true, apart := false, narrowed := true }
def ObstructionGrowsUptoSaid : Prop := obstructionGrowsUptoRow.holds Try.pinned (OpenSpec.upto obstructionGrowsSpec)

/-- 'coinagelaw29.ObstructionSizes', WHERE WHAT IT READS IS OF BULK AT MOST 1048576: true; the input reads as it did. -/
def obstructionSizesUptoRow : OpenClaim := { program := "ytjffjapajfhjhaa", sum := "7d35e28e2fe23597e42a16c4b2da4d256e66a604a70b9fddc029b7897d6c4569", func := "coinage/coinagelaw29.ObstructionSizes", spec := "obstructionSizes", unfollowed := true, recurses := true, apart := false, narrowed := true }
def ObstructionSizesUptoSaid : Prop := obstructionSizesUptoRow.holds Try.pinned (OpenSpec.upto obstructionSizesSpec)

/-- 'coinagelaw29.ObstructionFinds', WHERE WHAT IT READS IS OF BULK AT MOST 1048576: true; the input reads as it did. -/
def obstructionFindsUptoRow : OpenClaim := { program := "ytjffjapajfhjhaa", sum := "7d35e28e2fe23597e42a16c4b2da4d256e66a604a70b9fddc029b7897d6c4569", func := "coinage/coinagelaw29.ObstructionFinds", spec := "obstructionFinds", unfollowed := true, recurses := true, apart := false, narrowed := true }
def ObstructionFindsUptoSaid : Prop := obstructionFindsUptoRow.holds Try.pinned (OpenSpec.upto obstructionFindsSpec)

/-- 'coinagelaw29.ObstructionFewest', WHERE WHAT IT READS IS OF BULK AT MOST 1048576: true; the input reads as it did. -/
def obstructionFewestUptoRow : OpenClaim := { program := "ytjffjapajfhjhaa", sum := "7d35e28e2fe23597e42a16c4b2da4d256e66a604a70b9fddc029b7897d6c4569", func := "coinage/coinagelaw29.ObstructionFewest", spec := "obstructionFewest", unfollowed := true, recurses := true, apart := false, narrowed := true }
def ObstructionFewestUptoSaid : Prop := obstructionFewestUptoRow.holds Try.pinned (OpenSpec.upto obstructionFewestSpec)

end Rows
end Go.Proofs.Ytjffjapajfhjhaa
