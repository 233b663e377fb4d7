/-
  No cell of these rows narrows 'for every input' (looked for: loops, veiled, ifaces, maps, wideKeys, modest, calm, conditions, laid).
  DERIVED. THE GIVEN ROWS OF THIS SEAT. 7 by the template 'for every input the law returns true; each argument reads behind the call as it read before'; 0 by the template 'total and deterministic' (their statements: YtlomngideedobaaTotals.lean).
  GIVEN WITH THE SEED: the statements are not yours to turn. If you find one false, say at which input.
  Laid BY PROGRAM, IN A SANDBOX (cutbox-rows.mjs): the forced cells as the released guide's own fill.sh prints them over the translation e398d9c40bd834b9… (all of the seat's roots in one cut). By AI agents, Wed Nov 11 2026. No macro, syntax, notation, axiom, sorry.
-/
import Derived.Test.YtlomngideedobaaChecked
import GoSem.Claim
import GoSem.ClaimJoined
import GoSem.ClaimMapViews
import Derived.JoinedTies
import Derived.KernelRfl
namespace Go.Proofs.Ytlomngideedobaa
/- THE CELL 'sum', in the pinned program and in every row, IS THE sha256 OF THE DUMP (.gsa) THAT YtlomngideedobaaProg.lean LOADS. Nothing in Lean hashes anything: it is a label: what it is worth is what the hold of that sum in a sandbox is worth. -/
noncomputable def Try.pinned : Pinned := { name := "ytlomngideedobaa", sum := "e398d9c40bd834b9123e2517a7a4e5b21cba37f3de544d88949967ad19808b24", checked := Try.checked }
namespace Rows
def none {H : Type} : Left H := { results := [], args := [] }

/-- 'coinagelaw14.ComponentMetric': WHATEVER THE INPUT: true; the input reads as it did. -/
def componentMetricSpec : ChangeSpec := { name := "componentMetric", fn := fun _ => fun
  | [d1, d2] => { results := [.lit (.bool true)], args := [d1, d2] }
  | _ => none }
def componentMetricRow : OpenClaim := { program := "ytlomngideedobaa", sum := "e398d9c40bd834b9123e2517a7a4e5b21cba37f3de544d88949967ad19808b24", func := "coinage/coinagelaw14.ComponentMetric", spec := "componentMetric", recurses := true, plainKeys := false, apart := false }
def ComponentMetricSaid : Prop := componentMetricRow.holds Try.pinned (OpenSpec.ofChange componentMetricSpec)

/-- ITS FALSE NEIGHBOUR: 'it returns false'. Refute it at one input. -/
def componentMetricWrong : ChangeSpec := { name := "componentMetric", fn := fun _ => fun
  | [d1, d2] => { results := [.lit (.bool false)], args := [d1, d2] }
  | _ => none }
def ComponentMetricWrongFalsely : Prop := componentMetricRow.holds Try.pinned (OpenSpec.ofChange componentMetricWrong)

/-- 'coinagelaw14.ComponentPaths': WHATEVER THE INPUT: true; the input reads as it did. -/
def componentPathsSpec : ChangeSpec := { name := "componentPaths", fn := fun _ => fun
  | [d1, d2, d3] => { results := [.lit (.bool true)], args := [d1, d2, d3] }
  | _ => none }
def componentPathsRow : OpenClaim := { program := "ytlomngideedobaa", sum := "e398d9c40bd834b9123e2517a7a4e5b21cba37f3de544d88949967ad19808b24", func := "coinage/coinagelaw14.ComponentPaths", spec := "componentPaths", recurses := true, plainKeys := false, apart := false }
def ComponentPathsSaid : Prop := componentPathsRow.holds Try.pinned (OpenSpec.ofChange componentPathsSpec)

/-- ITS FALSE NEIGHBOUR: 'it returns false'. Refute it at one input. -/
def componentPathsWrong : ChangeSpec := { name := "componentPaths", fn := fun _ => fun
  | [d1, d2, d3] => { results := [.lit (.bool false)], args := [d1, d2, d3] }
  | _ => none }
def ComponentPathsWrongFalsely : Prop := componentPathsRow.holds Try.pinned (OpenSpec.ofChange componentPathsWrong)

/-- 'coinagelaw14.ComponentParts': WHATEVER THE INPUT: true; the input reads as it did. -/
def componentPartsSpec : ChangeSpec := { name := "componentParts", fn := fun _ => fun
  | [d] => { results := [.lit (.bool true)], args := [d] }
  | _ => none }
def componentPartsRow : OpenClaim := { program := "ytlomngideedobaa", sum := "e398d9c40bd834b9123e2517a7a4e5b21cba37f3de544d88949967ad19808b24", func := "coinage/coinagelaw14.ComponentParts", spec := "componentParts", recurses := true, plainKeys := false, apart := false }
def ComponentPartsSaid : Prop := componentPartsRow.holds Try.pinned (OpenSpec.ofChange componentPartsSpec)

/-- ITS FALSE NEIGHBOUR: 'it returns false'. Refute it at one input. -/
def componentPartsWrong : ChangeSpec := { name := "componentParts", fn := fun _ => fun
  | [d] => { results := [.lit (.bool false)], args := [d] }
  | _ => none }
def ComponentPartsWrongFalsely : Prop := componentPartsRow.holds Try.pinned (OpenSpec.ofChange componentPartsWrong)

/-- 'coinagelaw14.ComponentGrows': WHATEVER THE INPUT: true; the input reads as it did. -/
def componentGrowsSpec : ChangeSpec := { name := "componentGrows", fn := fun _ => fun
  | [d1, d2, d3] => { results := [.lit (.bool true)], args := [d1, d2, d3] }
  | _ => none }
def componentGrowsRow : OpenClaim := { program := "ytlomngideedobaa", sum := "e398d9c40bd834b9123e2517a7a4e5b21cba37f3de544d88949967ad19808b24", func := "coinage/coinagelaw14.ComponentGrows", spec := "componentGrows", recurses := true, plainKeys := false, apart := false }
def ComponentGrowsSaid : Prop := componentGrowsRow.holds Try.pinned (OpenSpec.ofChange componentGrowsSpec)

/-- ITS FALSE NEIGHBOUR: 'it returns false'. Refute it at one input. -/
def componentGrowsWrong : ChangeSpec := { name := "componentGrows", fn := fun _ => fun
  | [d1, d2, d3] => { results := [.lit (.bool false)], args := [d1, d2, d3] }
  | _ => none }
def ComponentGrowsWrongFalsely : Prop := componentGrowsRow.holds Try.pinned (OpenSpec.ofChange componentGrowsWrong)

/-- 'coinagelaw14.ComponentPart': WHATEVER THE INPUT: true; the input reads as it did. -/
def componentPartSpec : ChangeSpec := { name := "componentPart", fn := fun _ => fun
  | [d1, d2] => { results := [.lit (.bool true)], args := [d1, d2] }
  | _ => none }
def componentPartRow : OpenClaim := { program := "ytlomngideedobaa", sum := "e398d9c40bd834b9123e2517a7a4e5b21cba37f3de544d88949967ad19808b24", func := "coinage/coinagelaw14.ComponentPart", spec := "componentPart", recurses := true, plainKeys := false, apart := false }
def ComponentPartSaid : Prop := componentPartRow.holds Try.pinned (OpenSpec.ofChange componentPartSpec)

/-- ITS FALSE NEIGHBOUR: 'it returns false'. Refute it at one input. -/
def componentPartWrong : ChangeSpec := { name := "componentPart", fn := fun _ => fun
  | [d1, d2] => { results := [.lit (.bool false)], args := [d1, d2] }
  | _ => none }
def ComponentPartWrongFalsely : Prop := componentPartRow.holds Try.pinned (OpenSpec.ofChange componentPartWrong)

/-- 'coinagelaw14.ComponentAll': WHATEVER THE INPUT: true; the input reads as it did. -/
def componentAllSpec : ChangeSpec := { name := "componentAll", fn := fun _ => fun
  | [d] => { results := [.lit (.bool true)], args := [d] }
  | _ => none }
def componentAllRow : OpenClaim := { program := "ytlomngideedobaa", sum := "e398d9c40bd834b9123e2517a7a4e5b21cba37f3de544d88949967ad19808b24", func := "coinage/coinagelaw14.ComponentAll", spec := "componentAll", recurses := true, plainKeys := false, apart := false }
def ComponentAllSaid : Prop := componentAllRow.holds Try.pinned (OpenSpec.ofChange componentAllSpec)

/-- ITS FALSE NEIGHBOUR: 'it returns false'. Refute it at one input. -/
def componentAllWrong : ChangeSpec := { name := "componentAll", fn := fun _ => fun
  | [d] => { results := [.lit (.bool false)], args := [d] }
  | _ => none }
def ComponentAllWrongFalsely : Prop := componentAllRow.holds Try.pinned (OpenSpec.ofChange componentAllWrong)

/-- 'coinagelaw14.ComponentTrees': WHATEVER THE INPUT: true; the input reads as it did. -/
def componentTreesSpec : ChangeSpec := { name := "componentTrees", fn := fun _ => fun
  | [d] => { results := [.lit (.bool true)], args := [d] }
  | _ => none }
def componentTreesRow : OpenClaim := { program := "ytlomngideedobaa", sum := "e398d9c40bd834b9123e2517a7a4e5b21cba37f3de544d88949967ad19808b24", func := "coinage/coinagelaw14.ComponentTrees", spec := "componentTrees", unfollowed := true, recurses := true, plainKeys := false, apart := false }
def ComponentTreesSaid : Prop := componentTreesRow.holds Try.pinned (OpenSpec.ofChange componentTreesSpec)

/-- ITS FALSE NEIGHBOUR: 'it returns false'. Refute it at one input. -/
def componentTreesWrong : ChangeSpec := { name := "componentTrees", fn := fun _ => fun
  | [d] => { results := [.lit (.bool false)], args := [d] }
  | _ => none }
def ComponentTreesWrongFalsely : Prop := componentTreesRow.holds Try.pinned (OpenSpec.ofChange componentTreesWrong)

/- THE SECOND FORM. 'bulk': how many values and letters a reading holds, each counted each time it is reached (what is shared counts as often as it is met; a slice's spare places count too). A statement '..UptoSaid' is the law's where the arguments, and the package variables that the reading takes, are together of bulk at most 1048576: NARROWER than '..Said'. Prove '..Said' where nothing that the law and all that it calls make is longer than what came in: it says more and counts as full. Else prove '..UptoSaid'. A law counts once. -/
mutual
def uptoBulk {H : Type} : DataW H → Nat
  | .lit (.string bytes) => bytes.length + 1
  | .lit _ => 1
  | .nil => 1
  | .ptr d => uptoBulk d + 1
  | .slice elems spare => uptoBulkAll elems + uptoBulkAll spare + 1
  | .agg parts => uptoBulkAll parts + 1
  | .iface _ d => uptoBulk d + 1
  | .map entries => uptoBulkEntries entries + 1
  | .held _ => 1
def uptoBulkAll {H : Type} : List (DataW H) → Nat
  | [] => 0
  | d :: r => uptoBulk d + uptoBulkAll r
def uptoBulkEntries {H : Type} : List (Lit × DataW H) → Nat
  | [] => 0
  | x :: r => uptoBulkEntry x + uptoBulkEntries r
def uptoBulkEntry {H : Type} : Lit × DataW H → Nat
  | (.string bytes, d) => bytes.length + uptoBulk d + 1
  | (_, d) => uptoBulk d + 1
 end
def uptoSmall : (H : Type) → List (DataW H) → Bool := fun _ ds => decide (uptoBulkAll ds ≤ 1048576)
def OpenSpec.upto (s : _root_.Go.ChangeSpec) : _root_.Go.OpenSpec := { _root_.Go.OpenSpec.ofChange s with cond := some uptoSmall }

/-- 'coinagelaw14.ComponentMetric', WHERE WHAT IT READS IS OF BULK AT MOST 1048576: true; the input reads as it did. -/
def componentMetricUptoRow : OpenClaim := { program := "ytlomngideedobaa", sum := "e398d9c40bd834b9123e2517a7a4e5b21cba37f3de544d88949967ad19808b24", func := "coinage/coinagelaw14.ComponentMetric", spec := "componentMetric", recurses := true, plainKeys := false, apart := false, narrowed := true }
def ComponentMetricUptoSaid : Prop := componentMetricUptoRow.holds Try.pinned (OpenSpec.upto componentMetricSpec)

/-- 'coinagelaw14.ComponentPaths', WHERE WHAT IT READS IS OF BULK AT MOST 1048576: true; the input reads as it did. -/
def componentPathsUptoRow : OpenClaim := { program := "ytlomngideedobaa", sum := "e398d9c40bd834b9123e2517a7a4e5b21cba37f3de544d88949967ad19808b24", func := "coinage/coinagelaw14.ComponentPaths", spec := "componentPaths", recurses := true, plainKeys := false, apart := false, narrowed := true }
def ComponentPathsUptoSaid : Prop := componentPathsUptoRow.holds Try.pinned (OpenSpec.upto componentPathsSpec)

/-- 'coinagelaw14.ComponentParts', WHERE WHAT IT READS IS OF BULK AT MOST 1048576: true; the input reads as it did. -/
def componentPartsUptoRow : OpenClaim := { program := "ytlomngideedobaa", sum := "e398d9c40bd834b9123e2517a7a4e5b21cba37f3de544d88949967ad19808b24", func := "coinage/coinagelaw14.ComponentParts", spec := "componentParts", recurses := true, plainKeys := false, apart := false, narrowed := true }
def ComponentPartsUptoSaid : Prop := componentPartsUptoRow.holds Try.pinned (OpenSpec.upto componentPartsSpec)

/-- 'coinagelaw14.ComponentGrows', WHERE WHAT IT READS IS OF BULK AT MOST 1048576: true; the input reads as it did. -/
def componentGrowsUptoRow : OpenClaim := { program := "ytlomngideedobaa", sum := "e398d9c40bd834b9123e2517a7a4e5b21cba37f3de544d88949967ad19808b24", func := "coinage/coinagelaw14.ComponentGrows", spec := "componentGrows", recurses := true, plainKeys := false, apart := false, narrowed := true }
def ComponentGrowsUptoSaid : Prop := componentGrowsUptoRow.holds Try.pinned (OpenSpec.upto componentGrowsSpec)

/-- 'coinagelaw14.ComponentPart', WHERE WHAT IT READS IS OF BULK AT MOST 1048576: true; the input reads as it did. -/
def componentPartUptoRow : OpenClaim := { program := "ytlomngideedobaa", sum := "e398d9c40bd834b9123e2517a7a4e5b21cba37f3de544d88949967ad19808b24", func := "coinage/coinagelaw14.ComponentPart", spec := "componentPart", recurses := true, plainKeys := false, apart := false, narrowed := true }
def ComponentPartUptoSaid : Prop := componentPartUptoRow.holds Try.pinned (OpenSpec.upto componentPartSpec)

/-- 'coinagelaw14.ComponentAll', WHERE WHAT IT READS IS OF BULK AT MOST 1048576: true; the input reads as it did. -/
def componentAllUptoRow : OpenClaim := { program := "ytlomngideedobaa", sum := "e398d9c40bd834b9123e2517a7a4e5b21cba37f3de544d88949967ad19808b24", func := "coinage/coinagelaw14.ComponentAll", spec := "componentAll", recurses := true, plainKeys := false, apart := false, narrowed := true }
def ComponentAllUptoSaid : Prop := componentAllUptoRow.holds Try.pinned (OpenSpec.upto componentAllSpec)

/-- 'coinagelaw14.ComponentTrees', WHERE WHAT IT READS IS OF BULK AT MOST 1048576: true; the input reads as it did. -/
def componentTreesUptoRow : OpenClaim := { program := "ytlomngideedobaa", sum := "e398d9c40bd834b9123e2517a7a4e5b21cba37f3de544d88949967ad19808b24", func := "coinage/coinagelaw14.ComponentTrees", spec := "componentTrees", unfollowed := true, recurses := true, plainKeys := false, apart := false, narrowed := true }
def ComponentTreesUptoSaid : Prop := componentTreesUptoRow.holds Try.pinned (OpenSpec.upto componentTreesSpec)

end Rows
end Go.Proofs.Ytlomngideedobaa
