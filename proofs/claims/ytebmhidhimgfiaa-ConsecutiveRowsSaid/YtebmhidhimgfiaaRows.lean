/-
  No cell of these rows narrows 'for every input' (looked for: loops, veiled, ifaces, maps, wideKeys, modest, calm, conditions, laid).
  DERIVED. THE GIVEN ROWS OF THIS SEAT. 6 by the template 'for every input the law returns true; each argument reads behind the call as it read before'; 0 by the template 'total and deterministic' (their statements: YtebmhidhimgfiaaTotals.lean).
  GIVEN WITH THE SEED: the statements are not yours to turn. If you find one false, say at which input.
  Laid BY PROGRAM, IN A SANDBOX (cutbox-rows.mjs): the forced cells as the released guide's own fill.sh prints them over the translation c4ea712ce40f540b… (all of the seat's roots in one cut). By AI agents, Wed Nov 11 2026. No macro, syntax, notation, axiom, sorry.
-/
import Derived.Test.YtebmhidhimgfiaaChecked
import GoSem.Claim
import GoSem.ClaimJoined
import GoSem.ClaimMapViews
import Derived.JoinedTies
import Derived.KernelRfl
namespace Go.Proofs.Ytebmhidhimgfiaa
/- THE CELL 'sum', in the pinned program and in every row, IS THE sha256 OF THE DUMP (.gsa) THAT YtebmhidhimgfiaaProg.lean LOADS. Nothing in Lean hashes anything: it is a label: what it is worth is what the hold of that sum in a sandbox is worth. -/
noncomputable def Try.pinned : Pinned := { name := "ytebmhidhimgfiaa", sum := "c4ea712ce40f540b0afbc6aaefa8e5bdf6eadab9645dac62de1aa484330a7734", checked := Try.checked }
namespace Rows
def none {H : Type} : Left H := { results := [], args := [] }

/-- 'coinagelaw27.ConsecutiveRows': WHATEVER THE INPUT: true; the input reads as it did. -/
def consecutiveRowsSpec : ChangeSpec := { name := "consecutiveRows", fn := fun _ => fun
  | [d1, d2, d3] => { results := [.lit (.bool true)], args := [d1, d2, d3] }
  | _ => none }
def consecutiveRowsRow : OpenClaim := { program := "ytebmhidhimgfiaa", sum := "c4ea712ce40f540b0afbc6aaefa8e5bdf6eadab9645dac62de1aa484330a7734", func := "coinage/coinagelaw27.ConsecutiveRows", spec := "consecutiveRows", unfollowed := true, recurses := true, apart := false }
def ConsecutiveRowsSaid : Prop := consecutiveRowsRow.holds Try.pinned (OpenSpec.ofChange consecutiveRowsSpec)

/-- ITS FALSE NEIGHBOUR: 'it returns false'. Refute it at one input. -/
def consecutiveRowsWrong : ChangeSpec := { name := "consecutiveRows", fn := fun _ => fun
  | [d1, d2, d3] => { results := [.lit (.bool false)], args := [d1, d2, d3] }
  | _ => none }
def ConsecutiveRowsWrongFalsely : Prop := consecutiveRowsRow.holds Try.pinned (OpenSpec.ofChange consecutiveRowsWrong)

/-- 'coinagelaw27.ConsecutiveOrders': WHATEVER THE INPUT: true; the input reads as it did. -/
def consecutiveOrdersSpec : ChangeSpec := { name := "consecutiveOrders", fn := fun _ => fun
  | [d1, d2] => { results := [.lit (.bool true)], args := [d1, d2] }
  | _ => none }
def consecutiveOrdersRow : OpenClaim := { program := "ytebmhidhimgfiaa", sum := "c4ea712ce40f540b0afbc6aaefa8e5bdf6eadab9645dac62de1aa484330a7734", func := "coinage/coinagelaw27.ConsecutiveOrders", spec := "consecutiveOrders", unfollowed := true, recurses := true, apart := false }
def ConsecutiveOrdersSaid : Prop := consecutiveOrdersRow.holds Try.pinned (OpenSpec.ofChange consecutiveOrdersSpec)

/-- ITS FALSE NEIGHBOUR: 'it returns false'. Refute it at one input. -/
def consecutiveOrdersWrong : ChangeSpec := { name := "consecutiveOrders", fn := fun _ => fun
  | [d1, d2] => { results := [.lit (.bool false)], args := [d1, d2] }
  | _ => none }
def ConsecutiveOrdersWrongFalsely : Prop := consecutiveOrdersRow.holds Try.pinned (OpenSpec.ofChange consecutiveOrdersWrong)

/-- 'coinagelaw27.ConsecutiveRuns': WHATEVER THE INPUT: true; the input reads as it did. -/
def consecutiveRunsSpec : ChangeSpec := { name := "consecutiveRuns", fn := fun _ => fun
  | [d1, d2, d3] => { results := [.lit (.bool true)], args := [d1, d2, d3] }
  | _ => none }
def consecutiveRunsRow : OpenClaim := { program := "ytebmhidhimgfiaa", sum := "c4ea712ce40f540b0afbc6aaefa8e5bdf6eadab9645dac62de1aa484330a7734", func := "coinage/coinagelaw27.ConsecutiveRuns", spec := "consecutiveRuns", unfollowed := true, recurses := true, apart := false }
def ConsecutiveRunsSaid : Prop := consecutiveRunsRow.holds Try.pinned (OpenSpec.ofChange consecutiveRunsSpec)

/-- ITS FALSE NEIGHBOUR: 'it returns false'. Refute it at one input. -/
def consecutiveRunsWrong : ChangeSpec := { name := "consecutiveRuns", fn := fun _ => fun
  | [d1, d2, d3] => { results := [.lit (.bool false)], args := [d1, d2, d3] }
  | _ => none }
def ConsecutiveRunsWrongFalsely : Prop := consecutiveRunsRow.holds Try.pinned (OpenSpec.ofChange consecutiveRunsWrong)

/-- 'coinagelaw27.ConsecutiveTurns': WHATEVER THE INPUT: true; the input reads as it did. -/
def consecutiveTurnsSpec : ChangeSpec := { name := "consecutiveTurns", fn := fun _ => fun
  | [d1, d2, d3] => { results := [.lit (.bool true)], args := [d1, d2, d3] }
  | _ => none }
def consecutiveTurnsRow : OpenClaim := { program := "ytebmhidhimgfiaa", sum := "c4ea712ce40f540b0afbc6aaefa8e5bdf6eadab9645dac62de1aa484330a7734", func := "coinage/coinagelaw27.ConsecutiveTurns", spec := "consecutiveTurns", unfollowed := true, recurses := true, apart := false }
def ConsecutiveTurnsSaid : Prop := consecutiveTurnsRow.holds Try.pinned (OpenSpec.ofChange consecutiveTurnsSpec)

/-- ITS FALSE NEIGHBOUR: 'it returns false'. Refute it at one input. -/
def consecutiveTurnsWrong : ChangeSpec := { name := "consecutiveTurns", fn := fun _ => fun
  | [d1, d2, d3] => { results := [.lit (.bool false)], args := [d1, d2, d3] }
  | _ => none }
def ConsecutiveTurnsWrongFalsely : Prop := consecutiveTurnsRow.holds Try.pinned (OpenSpec.ofChange consecutiveTurnsWrong)

/-- 'coinagelaw27.ConsecutiveUnions': WHATEVER THE INPUT: true; the input reads as it did. -/
def consecutiveUnionsSpec : ChangeSpec := { name := "consecutiveUnions", fn := fun _ => fun
  | [d1, d2, d3] => { results := [.lit (.bool true)], args := [d1, d2, d3] }
  | _ => none }
def consecutiveUnionsRow : OpenClaim := { program := "ytebmhidhimgfiaa", sum := "c4ea712ce40f540b0afbc6aaefa8e5bdf6eadab9645dac62de1aa484330a7734", func := "coinage/coinagelaw27.ConsecutiveUnions", spec := "consecutiveUnions", unfollowed := true, recurses := true, apart := false }
def ConsecutiveUnionsSaid : Prop := consecutiveUnionsRow.holds Try.pinned (OpenSpec.ofChange consecutiveUnionsSpec)

/-- ITS FALSE NEIGHBOUR: 'it returns false'. Refute it at one input. -/
def consecutiveUnionsWrong : ChangeSpec := { name := "consecutiveUnions", fn := fun _ => fun
  | [d1, d2, d3] => { results := [.lit (.bool false)], args := [d1, d2, d3] }
  | _ => none }
def ConsecutiveUnionsWrongFalsely : Prop := consecutiveUnionsRow.holds Try.pinned (OpenSpec.ofChange consecutiveUnionsWrong)

/-- 'coinagelaw27.ConsecutiveOnes': WHATEVER THE INPUT: true; the input reads as it did. -/
def consecutiveOnesSpec : ChangeSpec := { name := "consecutiveOnes", fn := fun _ => fun
  | [d1, d2, d3] => { results := [.lit (.bool true)], args := [d1, d2, d3] }
  | _ => none }
def consecutiveOnesRow : OpenClaim := { program := "ytebmhidhimgfiaa", sum := "c4ea712ce40f540b0afbc6aaefa8e5bdf6eadab9645dac62de1aa484330a7734", func := "coinage/coinagelaw27.ConsecutiveOnes", spec := "consecutiveOnes", unfollowed := true, recurses := true, apart := false }
def ConsecutiveOnesSaid : Prop := consecutiveOnesRow.holds Try.pinned (OpenSpec.ofChange consecutiveOnesSpec)

/-- ITS FALSE NEIGHBOUR: 'it returns false'. Refute it at one input. -/
def consecutiveOnesWrong : ChangeSpec := { name := "consecutiveOnes", fn := fun _ => fun
  | [d1, d2, d3] => { results := [.lit (.bool false)], args := [d1, d2, d3] }
  | _ => none }
def ConsecutiveOnesWrongFalsely : Prop := consecutiveOnesRow.holds Try.pinned (OpenSpec.ofChange consecutiveOnesWrong)

/- THE SECOND FORM. 'bulk': how many values and letters a reading holds, each counted each time it is reached (what is shared counts as often as it is met; a slice's spare places count too). A statement '..UptoSaid' is the law's where the arguments, and the package variables that the reading takes, are together of bulk at most 1048576: NARROWER than '..Said'. Prove '..Said' where nothing that the law and all that it calls make is longer than what came in: it says more and counts as full. Else prove '..UptoSaid'. A law counts once. -/
mutual
def uptoBulk {H : Type} : DataW H → Nat
  | .lit (.string bytes) => bytes.length + 1
  | .lit _ => 1
  | .nil => 1
  | .ptr d => uptoBulk d + 1
  | .slice elems spare => uptoBulkAll elems + uptoBulkAll spare + 1
  | .agg parts => uptoBulkAll parts + 1
  | .iface _ d => uptoBulk d + 1
  | .map entries => uptoBulkEntries entries + 1
  | .held _ => 1
def uptoBulkAll {H : Type} : List (DataW H) → Nat
  | [] => 0
  | d :: r => uptoBulk d + uptoBulkAll r
def uptoBulkEntries {H : Type} : List (Lit × DataW H) → Nat
  | [] => 0
  | x :: r => uptoBulkEntry x + uptoBulkEntries r
def uptoBulkEntry {H : Type} : Lit × DataW H → Nat
  | (.string bytes, d) => bytes.length + uptoBulk d + 1
  | (_, d) => uptoBulk d + 1
 end
def uptoSmall : (H : Type) → List (DataW H) → Bool := fun _ ds => decide (uptoBulkAll ds ≤ 1048576)
def OpenSpec.upto (s : _root_.Go.ChangeSpec) : _root_.Go.OpenSpec := { _root_.Go.OpenSpec.ofChange s with cond := some uptoSmall }

/-- 'coinagelaw27.ConsecutiveRows', WHERE WHAT IT READS IS OF BULK AT MOST 1048576: true; the input reads as it did. -/
def consecutiveRowsUptoRow : OpenClaim := { program := "ytebmhidhimgfiaa", sum := "c4ea712ce40f540b0afbc6aaefa8e5bdf6eadab9645dac62de1aa484330a7734", func := "coinage/coinagelaw27.ConsecutiveRows", spec := "consecutiveRows", unfollowed := true, recurses := true, apart := false, narrowed := true }
def ConsecutiveRowsUptoSaid : Prop := consecutiveRowsUptoRow.holds Try.pinned (OpenSpec.upto consecutiveRowsSpec)

/-- 'coinagelaw27.ConsecutiveOrders', WHERE WHAT IT READS IS OF BULK AT MOST 1048576: true; the input reads as it did. -/
def consecutiveOrdersUptoRow : OpenClaim := { program := "ytebmhidhimgfiaa", sum := "c4ea712ce40f540b0afbc6aaefa8e5bdf6eadab9645dac62de1aa484330a7734", func := "coinage/coinagelaw27.ConsecutiveOrders", spec := "consecutiveOrders", unfollowed := true, recurses := true, apart := false, narrowed := true }
def ConsecutiveOrdersUptoSaid : Prop := consecutiveOrdersUptoRow.holds Try.pinned (OpenSpec.upto consecutiveOrdersSpec)

/-- 'coinagelaw27.ConsecutiveRuns', WHERE WHAT IT READS IS OF BULK AT MOST 1048576: true; the input reads as it did. -/
def consecutiveRunsUptoRow : OpenClaim := { program := "ytebmhidhimgfiaa", sum := "c4ea712ce40f540b0afbc6aaefa8e5bdf6eadab9645dac62de1aa484330a7734", func := "coinage/coinagelaw27.ConsecutiveRuns", spec := "consecutiveRuns", unfollowed := true, recurses := true, apart := false, narrowed := true }
def ConsecutiveRunsUptoSaid : Prop := consecutiveRunsUptoRow.holds Try.pinned (OpenSpec.upto consecutiveRunsSpec)

/-- 'coinagelaw27.ConsecutiveTurns', WHERE WHAT IT READS IS OF BULK AT MOST 1048576: true; the input reads as it did. -/
def consecutiveTurnsUptoRow : OpenClaim := { program := "ytebmhidhimgfiaa", sum := "c4ea712ce40f540b0afbc6aaefa8e5bdf6eadab9645dac62de1aa484330a7734", func := "coinage/coinagelaw27.ConsecutiveTurns", spec := "consecutiveTurns", unfollowed := true, recurses := true, apart := false, narrowed := true }
def ConsecutiveTurnsUptoSaid : Prop := consecutiveTurnsUptoRow.holds Try.pinned (OpenSpec.upto consecutiveTurnsSpec)

/-- 'coinagelaw27.ConsecutiveUnions', WHERE WHAT IT READS IS OF BULK AT MOST 1048576: true; the input reads as it did. -/
def consecutiveUnionsUptoRow : OpenClaim := { program := "ytebmhidhimgfiaa", sum := "c4ea712ce40f540b0afbc6aaefa8e5bdf6eadab9645dac62de1aa484330a7734", func := "coinage/coinagelaw27.ConsecutiveUnions", spec := "consecutiveUnions", unfollowed := true, recurses := true, apart := false, narrowed := true }
def ConsecutiveUnionsUptoSaid : Prop := consecutiveUnionsUptoRow.holds Try.pinned (OpenSpec.upto consecutiveUnionsSpec)

/-- 'coinagelaw27.ConsecutiveOnes', WHERE WHAT IT READS IS OF BULK AT MOST 1048576: true; the input reads as it did. -/
def consecutiveOnesUptoRow : OpenClaim := { program := "ytebmhidhimgfiaa", sum := "c4ea712ce40f540b0afbc6aaefa8e5bdf6eadab9645dac62de1aa484330a7734", func := "coinage/coinagelaw27.ConsecutiveOnes", spec := "consecutiveOnes", unfollowed := true, recurses := true, apart := false, narrowed := true }
def ConsecutiveOnesUptoSaid : Prop := consecutiveOnesUptoRow.holds Try.pinned (OpenSpec.upto consecutiveOnesSpec)

end Rows
end Go.Proofs.Ytebmhidhimgfiaa
