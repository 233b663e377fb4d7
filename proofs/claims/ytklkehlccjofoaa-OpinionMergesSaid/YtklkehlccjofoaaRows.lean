/-
  No cell of these rows narrows 'for every input' (looked for: loops, veiled, ifaces, maps, wideKeys, modest, calm, conditions, laid).
  DERIVED. THE GIVEN ROWS OF THIS SEAT. 8 by the template 'for every input the law returns true; each argument reads behind the call as it read before'; 0 by the template 'total and deterministic' (their statements: YtklkehlccjofoaaTotals.lean).
  GIVEN WITH THE SEED: the statements are not yours to turn. If you find one false, say at which input.
  Laid BY PROGRAM, IN A SANDBOX (cutbox-rows.mjs): the forced cells as the released guide's own fill.sh prints them over the translation 6c52505f8d218f2f… (all of the seat's roots in one cut). By AI agents, Wed Nov 11 2026. No macro, syntax, notation, axiom, sorry.
-/
import Derived.Test.YtklkehlccjofoaaChecked
import GoSem.Claim
import GoSem.ClaimJoined
import GoSem.ClaimMapViews
import Derived.JoinedTies
import Derived.KernelRfl
namespace Go.Proofs.Ytklkehlccjofoaa
/- THE CELL 'sum', in the pinned program and in every row, IS THE sha256 OF THE DUMP (.gsa) THAT YtklkehlccjofoaaProg.lean LOADS. Nothing in Lean hashes anything: it is a label: what it is worth is what the hold of that sum in a sandbox is worth. -/
noncomputable def Try.pinned : Pinned := { name := "ytklkehlccjofoaa", sum := "6c52505f8d218f2f70e8a05a0f557577971dcbbdb8918872c138ae608675b4e8", checked := Try.checked }
namespace Rows
def none {H : Type} : Left H := { results := [], args := [] }

/-- 'coinagelaw12.OpinionDiffs': WHATEVER THE INPUT: true; the input reads as it did. -/
def opinionDiffsSpec : ChangeSpec := { name := "opinionDiffs", fn := fun _ => fun
  | [d1, d2] => { results := [.lit (.bool true)], args := [d1, d2] }
  | _ => none }
def opinionDiffsRow : OpenClaim := { program := "ytklkehlccjofoaa", sum := "6c52505f8d218f2f70e8a05a0f557577971dcbbdb8918872c138ae608675b4e8", func := "coinage/coinagelaw12.OpinionDiffs", spec := "opinionDiffs", unfollowed := true, recurses := true, apart := false }
def OpinionDiffsSaid : Prop := opinionDiffsRow.holds Try.pinned (OpenSpec.ofChange opinionDiffsSpec)

/-- ITS FALSE NEIGHBOUR: 'it returns false'. Refute it at one input. -/
def opinionDiffsWrong : ChangeSpec := { name := "opinionDiffs", fn := fun _ => fun
  | [d1, d2] => { results := [.lit (.bool false)], args := [d1, d2] }
  | _ => none }
def OpinionDiffsWrongFalsely : Prop := opinionDiffsRow.holds Try.pinned (OpenSpec.ofChange opinionDiffsWrong)

/-- 'coinagelaw12.OpinionMerges': WHATEVER THE INPUT: true; the input reads as it did. -/
def opinionMergesSpec : ChangeSpec := { name := "opinionMerges", fn := fun _ => fun
  | [d1, d2, d3] => { results := [.lit (.bool true)], args := [d1, d2, d3] }
  | _ => none }
def opinionMergesRow : OpenClaim := { program := "ytklkehlccjofoaa", sum := "6c52505f8d218f2f70e8a05a0f557577971dcbbdb8918872c138ae608675b4e8", func := "coinage/coinagelaw12.OpinionMerges", spec := "opinionMerges", unfollowed := true, recurses := true, apart := false }
def OpinionMergesSaid : Prop := opinionMergesRow.holds Try.pinned (OpenSpec.ofChange opinionMergesSpec)

/-- ITS FALSE NEIGHBOUR: 'it returns false'. Refute it at one input. -/
def opinionMergesWrong : ChangeSpec := { name := "opinionMerges", fn := fun _ => fun
  | [d1, d2, d3] => { results := [.lit (.bool false)], args := [d1, d2, d3] }
  | _ => none }
def OpinionMergesWrongFalsely : Prop := opinionMergesRow.holds Try.pinned (OpenSpec.ofChange opinionMergesWrong)

/-- 'coinagelaw12.OpinionSides': WHATEVER THE INPUT: true; the input reads as it did. -/
def opinionSidesSpec : ChangeSpec := { name := "opinionSides", fn := fun _ => fun
  | [d1, d2] => { results := [.lit (.bool true)], args := [d1, d2] }
  | _ => none }
def opinionSidesRow : OpenClaim := { program := "ytklkehlccjofoaa", sum := "6c52505f8d218f2f70e8a05a0f557577971dcbbdb8918872c138ae608675b4e8", func := "coinage/coinagelaw12.OpinionSides", spec := "opinionSides", unfollowed := true, recurses := true, apart := false }
def OpinionSidesSaid : Prop := opinionSidesRow.holds Try.pinned (OpenSpec.ofChange opinionSidesSpec)

/-- ITS FALSE NEIGHBOUR: 'it returns false'. Refute it at one input. -/
def opinionSidesWrong : ChangeSpec := { name := "opinionSides", fn := fun _ => fun
  | [d1, d2] => { results := [.lit (.bool false)], args := [d1, d2] }
  | _ => none }
def OpinionSidesWrongFalsely : Prop := opinionSidesRow.holds Try.pinned (OpenSpec.ofChange opinionSidesWrong)

/-- 'coinagelaw12.OpinionValid': WHATEVER THE INPUT: true; the input reads as it did. -/
def opinionValidSpec : ChangeSpec := { name := "opinionValid", fn := fun _ => fun
  | [d1, d2] => { results := [.lit (.bool true)], args := [d1, d2] }
  | _ => none }
def opinionValidRow : OpenClaim := { program := "ytklkehlccjofoaa", sum := "6c52505f8d218f2f70e8a05a0f557577971dcbbdb8918872c138ae608675b4e8", func := "coinage/coinagelaw12.OpinionValid", spec := "opinionValid", unfollowed := true, recurses := true, apart := false }
def OpinionValidSaid : Prop := opinionValidRow.holds Try.pinned (OpenSpec.ofChange opinionValidSpec)

/-- ITS FALSE NEIGHBOUR: 'it returns false'. Refute it at one input. -/
def opinionValidWrong : ChangeSpec := { name := "opinionValid", fn := fun _ => fun
  | [d1, d2] => { results := [.lit (.bool false)], args := [d1, d2] }
  | _ => none }
def OpinionValidWrongFalsely : Prop := opinionValidRow.holds Try.pinned (OpenSpec.ofChange opinionValidWrong)

/-- 'coinagelaw12.OpinionApplies': WHATEVER THE INPUT: true; the input reads as it did. -/
def opinionAppliesSpec : ChangeSpec := { name := "opinionApplies", fn := fun _ => fun
  | [d1, d2] => { results := [.lit (.bool true)], args := [d1, d2] }
  | _ => none }
def opinionAppliesRow : OpenClaim := { program := "ytklkehlccjofoaa", sum := "6c52505f8d218f2f70e8a05a0f557577971dcbbdb8918872c138ae608675b4e8", func := "coinage/coinagelaw12.OpinionApplies", spec := "opinionApplies", unfollowed := true, recurses := true, apart := false }
def OpinionAppliesSaid : Prop := opinionAppliesRow.holds Try.pinned (OpenSpec.ofChange opinionAppliesSpec)

/-- ITS FALSE NEIGHBOUR: 'it returns false'. Refute it at one input. -/
def opinionAppliesWrong : ChangeSpec := { name := "opinionApplies", fn := fun _ => fun
  | [d1, d2] => { results := [.lit (.bool false)], args := [d1, d2] }
  | _ => none }
def OpinionAppliesWrongFalsely : Prop := opinionAppliesRow.holds Try.pinned (OpenSpec.ofChange opinionAppliesWrong)

/-- 'coinagelaw12.OpinionLeads': WHATEVER THE INPUT: true; the input reads as it did. -/
def opinionLeadsSpec : ChangeSpec := { name := "opinionLeads", fn := fun _ => fun
  | [d1, d2] => { results := [.lit (.bool true)], args := [d1, d2] }
  | _ => none }
def opinionLeadsRow : OpenClaim := { program := "ytklkehlccjofoaa", sum := "6c52505f8d218f2f70e8a05a0f557577971dcbbdb8918872c138ae608675b4e8", func := "coinage/coinagelaw12.OpinionLeads", spec := "opinionLeads", unfollowed := true, recurses := true, apart := false }
def OpinionLeadsSaid : Prop := opinionLeadsRow.holds Try.pinned (OpenSpec.ofChange opinionLeadsSpec)

/-- ITS FALSE NEIGHBOUR: 'it returns false'. Refute it at one input. -/
def opinionLeadsWrong : ChangeSpec := { name := "opinionLeads", fn := fun _ => fun
  | [d1, d2] => { results := [.lit (.bool false)], args := [d1, d2] }
  | _ => none }
def OpinionLeadsWrongFalsely : Prop := opinionLeadsRow.holds Try.pinned (OpenSpec.ofChange opinionLeadsWrong)

/-- 'coinagelaw12.OpinionComposes': WHATEVER THE INPUT: true; the input reads as it did. -/
def opinionComposesSpec : ChangeSpec := { name := "opinionComposes", fn := fun _ => fun
  | [d1, d2] => { results := [.lit (.bool true)], args := [d1, d2] }
  | _ => none }
def opinionComposesRow : OpenClaim := { program := "ytklkehlccjofoaa", sum := "6c52505f8d218f2f70e8a05a0f557577971dcbbdb8918872c138ae608675b4e8", func := "coinage/coinagelaw12.OpinionComposes", spec := "opinionComposes", unfollowed := true, recurses := true, apart := false }
def OpinionComposesSaid : Prop := opinionComposesRow.holds Try.pinned (OpenSpec.ofChange opinionComposesSpec)

/-- ITS FALSE NEIGHBOUR: 'it returns false'. Refute it at one input. -/
def opinionComposesWrong : ChangeSpec := { name := "opinionComposes", fn := fun _ => fun
  | [d1, d2] => { results := [.lit (.bool false)], args := [d1, d2] }
  | _ => none }
def OpinionComposesWrongFalsely : Prop := opinionComposesRow.holds Try.pinned (OpenSpec.ofChange opinionComposesWrong)

/-- 'coinagelaw12.OpinionChains': WHATEVER THE INPUT: true; the input reads as it did. -/
def opinionChainsSpec : ChangeSpec := { name := "opinionChains", fn := fun _ => fun
  | [d1, d2, d3] => { results := [.lit (.bool true)], args := [d1, d2, d3] }
  | _ => none }
def opinionChainsRow : OpenClaim := { program := "ytklkehlccjofoaa", sum := "6c52505f8d218f2f70e8a05a0f557577971dcbbdb8918872c138ae608675b4e8", func := "coinage/coinagelaw12.OpinionChains", spec := "opinionChains", unfollowed := true, recurses := true, apart := false }
def OpinionChainsSaid : Prop := opinionChainsRow.holds Try.pinned (OpenSpec.ofChange opinionChainsSpec)

/-- ITS FALSE NEIGHBOUR: 'it returns false'. Refute it at one input. -/
def opinionChainsWrong : ChangeSpec := { name := "opinionChains", fn := fun _ => fun
  | [d1, d2, d3] => { results := [.lit (.bool false)], args := [d1, d2, d3] }
  | _ => none }
def OpinionChainsWrongFalsely : Prop := opinionChainsRow.holds Try.pinned (OpenSpec.ofChange opinionChainsWrong)

/- THE SECOND FORM. 'bulk': how many values and letters a reading holds, each counted each time it is reached (what is shared counts as often as it is met; a slice's spare places count too). A statement '..UptoSaid' is the law's where the arguments, and the package variables that the reading takes, are together of bulk at most 1048576: NARROWER than '..Said'. Prove '..Said' where nothing that the law and all that it calls make is longer than what came in: it says more and counts as full. Else prove '..UptoSaid'. A law counts once. -/
mutual
def uptoBulk {H : Type} : DataW H → Nat
  | .lit (.string bytes) => bytes.length + 1
  | .lit _ => 1
  | .nil => 1
  | .ptr d => uptoBulk d + 1
  | .slice elems spare => uptoBulkAll elems + uptoBulkAll spare + 1
  | .agg parts => uptoBulkAll parts + 1
  | .iface _ d => uptoBulk d + 1
  | .map entries => uptoBulkEntries entries + 1
  | .held _ => 1
def uptoBulkAll {H : Type} : List (DataW H) → Nat
  | [] => 0
  | d :: r => uptoBulk d + uptoBulkAll r
def uptoBulkEntries {H : Type} : List (Lit × DataW H) → Nat
  | [] => 0
  | x :: r => uptoBulkEntry x + uptoBulkEntries r
def uptoBulkEntry {H : Type} : Lit × DataW H → Nat
  | (.string bytes, d) => bytes.length + uptoBulk d + 1
  | (_, d) => uptoBulk d + 1
 end
def uptoSmall : (H : Type) → List (DataW H) → Bool := fun _ ds => decide (uptoBulkAll ds ≤ 1048576)
def OpenSpec.upto (s : _root_.Go.ChangeSpec) : _root_.Go.OpenSpec := { _root_.Go.OpenSpec.ofChange s with cond := some uptoSmall }

/-- 'coinagelaw12.OpinionDiffs', WHERE WHAT IT READS IS OF BULK AT MOST 1048576: true; the input reads as it did. -/
def opinionDiffsUptoRow : OpenClaim := { program := "ytklkehlccjofoaa", sum := "6c52505f8d218f2f70e8a05a0f557577971dcbbdb8918872c138ae608675b4e8", func := "coinage/coinagelaw12.OpinionDiffs", spec := "opinionDiffs", unfollowed := true, recurses := true, apart := false, narrowed := true }
def OpinionDiffsUptoSaid : Prop := opinionDiffsUptoRow.holds Try.pinned (OpenSpec.upto opinionDiffsSpec)

/-- 'coinagelaw12.OpinionMerges', WHERE WHAT IT READS IS OF BULK AT MOST 1048576: true; the input reads as it did. -/
def opinionMergesUptoRow : OpenClaim := { program := "ytklkehlccjofoaa", sum := "6c52505f8d218f2f70e8a05a0f557577971dcbbdb8918872c138ae608675b4e8", func := "coinage/coinagelaw12.OpinionMerges", spec := "opinionMerges", unfollowed := true, recurses := true, apart := false, narrowed := true }
def OpinionMergesUptoSaid : Prop := opinionMergesUptoRow.holds Try.pinned (OpenSpec.upto opinionMergesSpec)

/-- 'coinagelaw12.OpinionSides', WHERE WHAT IT READS IS OF BULK AT MOST 1048576: true; the input reads as it did. -/
def opinionSidesUptoRow : OpenClaim := { program := "ytklkehlccjofoaa", sum := "6c52505f8d218f2f70e8a05a0f557577971dcbbdb8918872c138ae608675b4e8", func := "coinage/coinagelaw12.OpinionSides", spec := "opinionSides", unfollowed := true, recurses := true, apart := false, narrowed := true }
def OpinionSidesUptoSaid : Prop := opinionSidesUptoRow.holds Try.pinned (OpenSpec.upto opinionSidesSpec)

/-- 'coinagelaw12.OpinionValid', WHERE WHAT IT READS IS OF BULK AT MOST 1048576: true; the input reads as it did. -/
def opinionValidUptoRow : OpenClaim := { program := "ytklkehlccjofoaa", sum := "6c52505f8d218f2f70e8a05a0f557577971dcbbdb8918872c138ae608675b4e8", func := "coinage/coinagelaw12.OpinionValid", spec := "opinionValid", unfollowed := true, recurses := true, apart := false, narrowed := true }
def OpinionValidUptoSaid : Prop := opinionValidUptoRow.holds Try.pinned (OpenSpec.upto opinionValidSpec)

/-- 'coinagelaw12.OpinionApplies', WHERE WHAT IT READS IS OF BULK AT MOST 1048576: true; the input reads as it did. -/
def opinionAppliesUptoRow : OpenClaim := { program := "ytklkehlccjofoaa", sum := "6c52505f8d218f2f70e8a05a0f557577971dcbbdb8918872c138ae608675b4e8", func := "coinage/coinagelaw12.OpinionApplies", spec := "opinionApplies", unfollowed := true, recurses := true, apart := false, narrowed := true }
def OpinionAppliesUptoSaid : Prop := opinionAppliesUptoRow.holds Try.pinned (OpenSpec.upto opinionAppliesSpec)

/-- 'coinagelaw12.OpinionLeads', WHERE WHAT IT READS IS OF BULK AT MOST 1048576: true; the input reads as it did. -/
def opinionLeadsUptoRow : OpenClaim := { program := "ytklkehlccjofoaa", sum := "6c52505f8d218f2f70e8a05a0f557577971dcbbdb8918872c138ae608675b4e8", func := "coinage/coinagelaw12.OpinionLeads", spec := "opinionLeads", unfollowed := true, recurses := true, apart := false, narrowed := true }
def OpinionLeadsUptoSaid : Prop := opinionLeadsUptoRow.holds Try.pinned (OpenSpec.upto opinionLeadsSpec)

/-- 'coinagelaw12.OpinionComposes', WHERE WHAT IT READS IS OF BULK AT MOST 1048576: true; the input reads as it did. -/
def opinionComposesUptoRow : OpenClaim := { program := "ytklkehlccjofoaa", sum := "6c52505f8d218f2f70e8a05a0f557577971dcbbdb8918872c138ae608675b4e8", func := "coinage/coinagelaw12.OpinionComposes", spec := "opinionComposes", unfollowed := true, recurses := true, apart := false, narrowed := true }
def OpinionComposesUptoSaid : Prop := opinionComposesUptoRow.holds Try.pinned (OpenSpec.upto opinionComposesSpec)

/-- 'coinagelaw12.OpinionChains', WHERE WHAT IT READS IS OF BULK AT MOST 1048576: true; the input reads as it did. -/
def opinionChainsUptoRow : OpenClaim := { program := "ytklkehlccjofoaa", sum := "6c52505f8d218f2f70e8a05a0f557577971dcbbdb8918872c138ae608675b4e8", func := "coinage/coinagelaw12.OpinionChains", spec := "opinionChains", unfollowed := true, recurses := true, apart := false, narrowed := true }
def OpinionChainsUptoSaid : Prop := opinionChainsUptoRow.holds Try.pinned (OpenSpec.upto opinionChainsSpec)

end Rows
end Go.Proofs.Ytklkehlccjofoaa
