/-
  No cell of these rows narrows 'for every input' (looked for: loops, veiled, ifaces, maps, wideKeys, modest, calm, conditions, laid).
  DERIVED. THE GIVEN ROWS OF THIS SEAT. 6 by the template 'for every input the law returns true; each argument reads behind the call as it read before'; 0 by the template 'total and deterministic' (their statements: YtgldpbghbkoolaaTotals.lean).
  GIVEN WITH THE SEED: the statements are not yours to turn. If you find one false, say at which input.
  Laid BY PROGRAM, IN A SANDBOX (cutbox-rows.mjs): the forced cells as the released guide's own fill.sh prints them over the translation 3055df0c584a9f7a… (all of the seat's roots in one cut). By AI agents, Wed Nov 11 2026. No macro, syntax, notation, axiom, sorry.
-/
import Derived.Test.YtgldpbghbkoolaaChecked
import GoSem.Claim
import GoSem.ClaimJoined
import GoSem.ClaimMapViews
import Derived.JoinedTies
import Derived.KernelRfl
namespace Go.Proofs.Ytgldpbghbkoolaa
/- THE CELL 'sum', in the pinned program and in every row, IS THE sha256 OF THE DUMP (.gsa) THAT YtgldpbghbkoolaaProg.lean LOADS. Nothing in Lean hashes anything: it is a label: what it is worth is what the hold of that sum in a sandbox is worth. -/
noncomputable def Try.pinned : Pinned := { name := "ytgldpbghbkoolaa", sum := "3055df0c584a9f7a01d425d7c6039becb64abcfd7b2f10e0099420c6814064a6", checked := Try.checked }
namespace Rows
def none {H : Type} : Left H := { results := [], args := [] }

/-- 'coinagelaw15.BridgeThird': WHATEVER THE INPUT: true; the input reads as it did. -/
def bridgeThirdSpec : ChangeSpec := { name := "bridgeThird", fn := fun _ => fun
  | [d1, d2] => { results := [.lit (.bool true)], args := [d1, d2] }
  | _ => none }
def bridgeThirdRow : OpenClaim := { program := "ytgldpbghbkoolaa", sum := "3055df0c584a9f7a01d425d7c6039becb64abcfd7b2f10e0099420c6814064a6", func := "coinage/coinagelaw15.BridgeThird", spec := "bridgeThird", unfollowed := true, recurses := true, apart := false }
def BridgeThirdSaid : Prop := bridgeThirdRow.holds Try.pinned (OpenSpec.ofChange bridgeThirdSpec)

/-- ITS FALSE NEIGHBOUR: 'it returns false'. Refute it at one input. -/
def bridgeThirdWrong : ChangeSpec := { name := "bridgeThird", fn := fun _ => fun
  | [d1, d2] => { results := [.lit (.bool false)], args := [d1, d2] }
  | _ => none }
def BridgeThirdWrongFalsely : Prop := bridgeThirdRow.holds Try.pinned (OpenSpec.ofChange bridgeThirdWrong)

/-- 'coinagelaw15.BridgeFlows': WHATEVER THE INPUT: true; the input reads as it did. -/
def bridgeFlowsSpec : ChangeSpec := { name := "bridgeFlows", fn := fun _ => fun
  | [d1, d2, d3] => { results := [.lit (.bool true)], args := [d1, d2, d3] }
  | _ => none }
def bridgeFlowsRow : OpenClaim := { program := "ytgldpbghbkoolaa", sum := "3055df0c584a9f7a01d425d7c6039becb64abcfd7b2f10e0099420c6814064a6", func := "coinage/coinagelaw15.BridgeFlows", spec := "bridgeFlows", unfollowed := true, recurses := true, apart := false }
def BridgeFlowsSaid : Prop := bridgeFlowsRow.holds Try.pinned (OpenSpec.ofChange bridgeFlowsSpec)

/-- ITS FALSE NEIGHBOUR: 'it returns false'. Refute it at one input. -/
def bridgeFlowsWrong : ChangeSpec := { name := "bridgeFlows", fn := fun _ => fun
  | [d1, d2, d3] => { results := [.lit (.bool false)], args := [d1, d2, d3] }
  | _ => none }
def BridgeFlowsWrongFalsely : Prop := bridgeFlowsRow.holds Try.pinned (OpenSpec.ofChange bridgeFlowsWrong)

/-- 'coinagelaw15.BridgeOne': WHATEVER THE INPUT: true; the input reads as it did. -/
def bridgeOneSpec : ChangeSpec := { name := "bridgeOne", fn := fun _ => fun
  | [d] => { results := [.lit (.bool true)], args := [d] }
  | _ => none }
def bridgeOneRow : OpenClaim := { program := "ytgldpbghbkoolaa", sum := "3055df0c584a9f7a01d425d7c6039becb64abcfd7b2f10e0099420c6814064a6", func := "coinage/coinagelaw15.BridgeOne", spec := "bridgeOne", unfollowed := true, recurses := true, apart := false }
def BridgeOneSaid : Prop := bridgeOneRow.holds Try.pinned (OpenSpec.ofChange bridgeOneSpec)

/-- ITS FALSE NEIGHBOUR: 'it returns false'. Refute it at one input. -/
def bridgeOneWrong : ChangeSpec := { name := "bridgeOne", fn := fun _ => fun
  | [d] => { results := [.lit (.bool false)], args := [d] }
  | _ => none }
def BridgeOneWrongFalsely : Prop := bridgeOneRow.holds Try.pinned (OpenSpec.ofChange bridgeOneWrong)

/-- 'coinagelaw15.BridgeMenger': WHATEVER THE INPUT: true; the input reads as it did. -/
def bridgeMengerSpec : ChangeSpec := { name := "bridgeMenger", fn := fun _ => fun
  | [d1, d2, d3] => { results := [.lit (.bool true)], args := [d1, d2, d3] }
  | _ => none }
def bridgeMengerRow : OpenClaim := { program := "ytgldpbghbkoolaa", sum := "3055df0c584a9f7a01d425d7c6039becb64abcfd7b2f10e0099420c6814064a6", func := "coinage/coinagelaw15.BridgeMenger", spec := "bridgeMenger", unfollowed := true, recurses := true, apart := false }
def BridgeMengerSaid : Prop := bridgeMengerRow.holds Try.pinned (OpenSpec.ofChange bridgeMengerSpec)

/-- ITS FALSE NEIGHBOUR: 'it returns false'. Refute it at one input. -/
def bridgeMengerWrong : ChangeSpec := { name := "bridgeMenger", fn := fun _ => fun
  | [d1, d2, d3] => { results := [.lit (.bool false)], args := [d1, d2, d3] }
  | _ => none }
def BridgeMengerWrongFalsely : Prop := bridgeMengerRow.holds Try.pinned (OpenSpec.ofChange bridgeMengerWrong)

/-- 'coinagelaw15.BridgeFinds': WHATEVER THE INPUT: true; the input reads as it did. -/
def bridgeFindsSpec : ChangeSpec := { name := "bridgeFinds", fn := fun _ => fun
  | [d] => { results := [.lit (.bool true)], args := [d] }
  | _ => none }
def bridgeFindsRow : OpenClaim := { program := "ytgldpbghbkoolaa", sum := "3055df0c584a9f7a01d425d7c6039becb64abcfd7b2f10e0099420c6814064a6", func := "coinage/coinagelaw15.BridgeFinds", spec := "bridgeFinds", unfollowed := true, recurses := true, apart := false }
def BridgeFindsSaid : Prop := bridgeFindsRow.holds Try.pinned (OpenSpec.ofChange bridgeFindsSpec)

/-- ITS FALSE NEIGHBOUR: 'it returns false'. Refute it at one input. -/
def bridgeFindsWrong : ChangeSpec := { name := "bridgeFinds", fn := fun _ => fun
  | [d] => { results := [.lit (.bool false)], args := [d] }
  | _ => none }
def BridgeFindsWrongFalsely : Prop := bridgeFindsRow.holds Try.pinned (OpenSpec.ofChange bridgeFindsWrong)

/-- 'coinagelaw15.BridgeMore': WHATEVER THE INPUT: true; the input reads as it did. -/
def bridgeMoreSpec : ChangeSpec := { name := "bridgeMore", fn := fun _ => fun
  | [d1, d2, d3] => { results := [.lit (.bool true)], args := [d1, d2, d3] }
  | _ => none }
def bridgeMoreRow : OpenClaim := { program := "ytgldpbghbkoolaa", sum := "3055df0c584a9f7a01d425d7c6039becb64abcfd7b2f10e0099420c6814064a6", func := "coinage/coinagelaw15.BridgeMore", spec := "bridgeMore", unfollowed := true, recurses := true, apart := false }
def BridgeMoreSaid : Prop := bridgeMoreRow.holds Try.pinned (OpenSpec.ofChange bridgeMoreSpec)

/-- ITS FALSE NEIGHBOUR: 'it returns false'. Refute it at one input. -/
def bridgeMoreWrong : ChangeSpec := { name := "bridgeMore", fn := fun _ => fun
  | [d1, d2, d3] => { results := [.lit (.bool false)], args := [d1, d2, d3] }
  | _ => none }
def BridgeMoreWrongFalsely : Prop := bridgeMoreRow.holds Try.pinned (OpenSpec.ofChange bridgeMoreWrong)

/- THE SECOND FORM. 'bulk': how many values and letters a reading holds, each counted each time it is reached (what is shared counts as often as it is met; a slice's spare places count too). A statement '..UptoSaid' is the law's where the arguments, and the package variables that the reading takes, are together of bulk at most 1048576: NARROWER than '..Said'. Prove '..Said' where nothing that the law and all that it calls make is longer than what came in: it says more and counts as full. Else prove '..UptoSaid'. A law counts once. -/
mutual
def uptoBulk {H : Type} : DataW H → Nat
  | .lit (.string bytes) => bytes.length + 1
  | .lit _ => 1
  | .nil => 1
  | .ptr d => uptoBulk d + 1
  | .slice elems spare => uptoBulkAll elems + uptoBulkAll spare + 1
  | .agg parts => uptoBulkAll parts + 1
  | .iface _ d => uptoBulk d + 1
  | .map entries => uptoBulkEntries entries + 1
  | .held _ => 1
def uptoBulkAll {H : Type} : List (DataW H) → Nat
  | [] => 0
  | d :: r => uptoBulk d + uptoBulkAll r
def uptoBulkEntries {H : Type} : List (Lit × DataW H) → Nat
  | [] => 0
  | x :: r => uptoBulkEntry x + uptoBulkEntries r
def uptoBulkEntry {H : Type} : Lit × DataW H → Nat
  | (.string bytes, d) => bytes.length + uptoBulk d + 1
  | (_, d) => uptoBulk d + 1
 end
def uptoSmall : (H : Type) → List (DataW H) → Bool := fun _ ds => decide (uptoBulkAll ds ≤ 1048576)
def OpenSpec.upto (s : _root_.Go.ChangeSpec) : _root_.Go.OpenSpec := { _root_.Go.OpenSpec.ofChange s with cond := some uptoSmall }

/-- 'coinagelaw15.BridgeThird', WHERE WHAT IT READS IS OF BULK AT MOST 1048576: true; the input reads as it did. -/
def bridgeThirdUptoRow : OpenClaim := { program := "ytgldpbghbkoolaa", sum := "3055df0c584a9f7a01d425d7c6039becb64abcfd7b2f10e0099420c6814064a6", func := "coinage/coinagelaw15.BridgeThird", spec := "bridgeThird", unfollowed := true, recurses := true, apart := false, narrowed := true }
def BridgeThirdUptoSaid : Prop := bridgeThirdUptoRow.holds Try.pinned (OpenSpec.upto bridgeThirdSpec)

/-- 'coinagelaw15.BridgeFlows', WHERE WHAT IT READS IS OF BULK AT MOST 1048576: true; the input reads as it did. -/
def bridgeFlowsUptoRow : OpenClaim := { program := "ytgldpbghbkoolaa", sum := "3055df0c584a9f7a01d425d7c6039becb64abcfd7b2f10e0099420c6814064a6", func := "coinage/coinagelaw15.BridgeFlows", spec := "bridgeFlows", unfollowed := true, recurses := true, apart := false, narrowed := true }
def BridgeFlowsUptoSaid : Prop := bridgeFlowsUptoRow.holds Try.pinned (OpenSpec.upto bridgeFlowsSpec)

/-- 'coinagelaw15.BridgeOne', WHERE WHAT IT READS IS OF BULK AT MOST 1048576: true; the input reads as it did. -/
def bridgeOneUptoRow : OpenClaim := { program := "ytgldpbghbkoolaa", sum := "3055df0c584a9f7a01d425d7c6039becb64abcfd7b2f10e0099420c6814064a6", func := "coinage/coinagelaw15.BridgeOne", spec := "bridgeOne", unfollowed := true, recurses := true, apart := false, narrowed := true }
def BridgeOneUptoSaid : Prop := bridgeOneUptoRow.holds Try.pinned (OpenSpec.upto bridgeOneSpec)

/-- 'coinagelaw15.BridgeMenger', WHERE WHAT IT READS IS OF BULK AT MOST 1048576: true; the input reads as it did. -/
def bridgeMengerUptoRow : OpenClaim := { program := "ytgldpbghbkoolaa", sum := "3055df0c584a9f7a01d425d7c6039becb64abcfd7b2f10e0099420c6814064a6", func := "coinage/coinagelaw15.BridgeMenger", spec := "bridgeMenger", unfollowed := true, recurses := true, apart := false, narrowed := true }
def BridgeMengerUptoSaid : Prop := bridgeMengerUptoRow.holds Try.pinned (OpenSpec.upto bridgeMengerSpec)

/-- 'coinagelaw15.BridgeFinds', WHERE WHAT IT READS IS OF BULK AT MOST 1048576: true; the input reads as it did. -/
def bridgeFindsUptoRow : OpenClaim := { program := "ytgldpbghbkoolaa", sum := "3055df0c584a9f7a01d425d7c6039becb64abcfd7b2f10e0099420c6814064a6", func := "coinage/coinagelaw15.BridgeFinds", spec := "bridgeFinds", unfollowed := true, recurses := true, apart := false, narrowed := true }
def BridgeFindsUptoSaid : Prop := bridgeFindsUptoRow.holds Try.pinned (OpenSpec.upto bridgeFindsSpec)

/-- 'coinagelaw15.BridgeMore', WHERE WHAT IT READS IS OF BULK AT MOST 1048576: true; the input reads as it did. -/
def bridgeMoreUptoRow : OpenClaim := { program := "ytgldpbghbkoolaa", sum := "3055df0c584a9f7a01d425d7c6039becb64abcfd7b2f10e0099420c6814064a6", func := "coinage/coinagelaw15.BridgeMore", spec := "bridgeMore", unfollowed := true, recurses := true, apart := false, narrowed := true }
def BridgeMoreUptoSaid : Prop := bridgeMoreUptoRow.holds Try.pinned (OpenSpec.upto bridgeMoreSpec)

end Rows
end Go.Proofs.Ytgldpbghbkoolaa
