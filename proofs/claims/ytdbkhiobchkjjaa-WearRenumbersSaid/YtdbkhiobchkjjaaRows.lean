/-
  No cell of these rows narrows 'for every input' (looked for: loops, veiled, ifaces, maps, wideKeys, modest, calm, conditions, laid).
  DERIVED. THE GIVEN ROWS OF THIS SEAT. 7 by the template 'for every input the law returns true; each argument reads behind the call as it read before'; 0 by the template 'total and deterministic' (their statements: YtdbkhiobchkjjaaTotals.lean).
  GIVEN WITH THE SEED: the statements are not yours to turn. If you find one false, say at which input.
  Laid BY PROGRAM, IN A SANDBOX (cutbox-rows.mjs): the forced cells as the released guide's own fill.sh prints them over the translation c2d6bd1d0b24bc73… (all of the seat's roots in one cut). By AI agents, Wed Nov 11 2026. No macro, syntax, notation, axiom, sorry.
-/
import Derived.Test.YtdbkhiobchkjjaaChecked
import GoSem.Claim
import GoSem.ClaimJoined
import GoSem.ClaimMapViews
import Derived.JoinedTies
import Derived.KernelRfl
namespace Go.Proofs.Ytdbkhiobchkjjaa
/- THE CELL 'sum', in the pinned program and in every row, IS THE sha256 OF THE DUMP (.gsa) THAT YtdbkhiobchkjjaaProg.lean LOADS. Nothing in Lean hashes anything: it is a label: what it is worth is what the hold of that sum in a sandbox is worth. -/
noncomputable def Try.pinned : Pinned := { name := "ytdbkhiobchkjjaa", sum := "c2d6bd1d0b24bc7352e389d1698704213045ea0e1fbbcd9c2cfd84c4a63edf01", checked := Try.checked }
namespace Rows
def none {H : Type} : Left H := { results := [], args := [] }

/-- 'coinagelaw21.WearAdvances': WHATEVER THE INPUT: true; the input reads as it did. -/
def wearAdvancesSpec : ChangeSpec := { name := "wearAdvances", fn := fun _ => fun
  | [d1, d2] => { results := [.lit (.bool true)], args := [d1, d2] }
  | _ => none }
def wearAdvancesRow : OpenClaim := { program := "ytdbkhiobchkjjaa", sum := "c2d6bd1d0b24bc7352e389d1698704213045ea0e1fbbcd9c2cfd84c4a63edf01", func := "coinage/coinagelaw21.WearAdvances", spec := "wearAdvances", unfollowed := true, recurses := true, apart := false }
def WearAdvancesSaid : Prop := wearAdvancesRow.holds Try.pinned (OpenSpec.ofChange wearAdvancesSpec)

/-- ITS FALSE NEIGHBOUR: 'it returns false'. Refute it at one input. -/
def wearAdvancesWrong : ChangeSpec := { name := "wearAdvances", fn := fun _ => fun
  | [d1, d2] => { results := [.lit (.bool false)], args := [d1, d2] }
  | _ => none }
def WearAdvancesWrongFalsely : Prop := wearAdvancesRow.holds Try.pinned (OpenSpec.ofChange wearAdvancesWrong)

/-- 'coinagelaw21.WearOrders': WHATEVER THE INPUT: true; the input reads as it did. -/
def wearOrdersSpec : ChangeSpec := { name := "wearOrders", fn := fun _ => fun
  | [d1, d2] => { results := [.lit (.bool true)], args := [d1, d2] }
  | _ => none }
def wearOrdersRow : OpenClaim := { program := "ytdbkhiobchkjjaa", sum := "c2d6bd1d0b24bc7352e389d1698704213045ea0e1fbbcd9c2cfd84c4a63edf01", func := "coinage/coinagelaw21.WearOrders", spec := "wearOrders", unfollowed := true, recurses := true, apart := false }
def WearOrdersSaid : Prop := wearOrdersRow.holds Try.pinned (OpenSpec.ofChange wearOrdersSpec)

/-- ITS FALSE NEIGHBOUR: 'it returns false'. Refute it at one input. -/
def wearOrdersWrong : ChangeSpec := { name := "wearOrders", fn := fun _ => fun
  | [d1, d2] => { results := [.lit (.bool false)], args := [d1, d2] }
  | _ => none }
def WearOrdersWrongFalsely : Prop := wearOrdersRow.holds Try.pinned (OpenSpec.ofChange wearOrdersWrong)

/-- 'coinagelaw21.WearArcs': WHATEVER THE INPUT: true; the input reads as it did. -/
def wearArcsSpec : ChangeSpec := { name := "wearArcs", fn := fun _ => fun
  | [d1, d2] => { results := [.lit (.bool true)], args := [d1, d2] }
  | _ => none }
def wearArcsRow : OpenClaim := { program := "ytdbkhiobchkjjaa", sum := "c2d6bd1d0b24bc7352e389d1698704213045ea0e1fbbcd9c2cfd84c4a63edf01", func := "coinage/coinagelaw21.WearArcs", spec := "wearArcs", unfollowed := true, recurses := true, apart := false }
def WearArcsSaid : Prop := wearArcsRow.holds Try.pinned (OpenSpec.ofChange wearArcsSpec)

/-- ITS FALSE NEIGHBOUR: 'it returns false'. Refute it at one input. -/
def wearArcsWrong : ChangeSpec := { name := "wearArcs", fn := fun _ => fun
  | [d1, d2] => { results := [.lit (.bool false)], args := [d1, d2] }
  | _ => none }
def WearArcsWrongFalsely : Prop := wearArcsRow.holds Try.pinned (OpenSpec.ofChange wearArcsWrong)

/-- 'coinagelaw21.WearClashes': WHATEVER THE INPUT: true; the input reads as it did. -/
def wearClashesSpec : ChangeSpec := { name := "wearClashes", fn := fun _ => fun
  | [d] => { results := [.lit (.bool true)], args := [d] }
  | _ => none }
def wearClashesRow : OpenClaim := { program := "ytdbkhiobchkjjaa", sum := "c2d6bd1d0b24bc7352e389d1698704213045ea0e1fbbcd9c2cfd84c4a63edf01", func := "coinage/coinagelaw21.WearClashes", spec := "wearClashes", unfollowed := true, recurses := true, apart := false }
def WearClashesSaid : Prop := wearClashesRow.holds Try.pinned (OpenSpec.ofChange wearClashesSpec)

/-- ITS FALSE NEIGHBOUR: 'it returns false'. Refute it at one input. -/
def wearClashesWrong : ChangeSpec := { name := "wearClashes", fn := fun _ => fun
  | [d] => { results := [.lit (.bool false)], args := [d] }
  | _ => none }
def WearClashesWrongFalsely : Prop := wearClashesRow.holds Try.pinned (OpenSpec.ofChange wearClashesWrong)

/-- 'coinagelaw21.WearPairs': WHATEVER THE INPUT: true; the input reads as it did. -/
def wearPairsSpec : ChangeSpec := { name := "wearPairs", fn := fun _ => fun
  | [d1, d2] => { results := [.lit (.bool true)], args := [d1, d2] }
  | _ => none }
def wearPairsRow : OpenClaim := { program := "ytdbkhiobchkjjaa", sum := "c2d6bd1d0b24bc7352e389d1698704213045ea0e1fbbcd9c2cfd84c4a63edf01", func := "coinage/coinagelaw21.WearPairs", spec := "wearPairs", unfollowed := true, recurses := true, apart := false }
def WearPairsSaid : Prop := wearPairsRow.holds Try.pinned (OpenSpec.ofChange wearPairsSpec)

/-- ITS FALSE NEIGHBOUR: 'it returns false'. Refute it at one input. -/
def wearPairsWrong : ChangeSpec := { name := "wearPairs", fn := fun _ => fun
  | [d1, d2] => { results := [.lit (.bool false)], args := [d1, d2] }
  | _ => none }
def WearPairsWrongFalsely : Prop := wearPairsRow.holds Try.pinned (OpenSpec.ofChange wearPairsWrong)

/-- 'coinagelaw21.WearRenumbers': WHATEVER THE INPUT: true; the input reads as it did. -/
def wearRenumbersSpec : ChangeSpec := { name := "wearRenumbers", fn := fun _ => fun
  | [d] => { results := [.lit (.bool true)], args := [d] }
  | _ => none }
def wearRenumbersRow : OpenClaim := { program := "ytdbkhiobchkjjaa", sum := "c2d6bd1d0b24bc7352e389d1698704213045ea0e1fbbcd9c2cfd84c4a63edf01", func := "coinage/coinagelaw21.WearRenumbers", spec := "wearRenumbers", unfollowed := true, recurses := true, apart := false }
def WearRenumbersSaid : Prop := wearRenumbersRow.holds Try.pinned (OpenSpec.ofChange wearRenumbersSpec)

/-- ITS FALSE NEIGHBOUR: 'it returns false'. Refute it at one input. -/
def wearRenumbersWrong : ChangeSpec := { name := "wearRenumbers", fn := fun _ => fun
  | [d] => { results := [.lit (.bool false)], args := [d] }
  | _ => none }
def WearRenumbersWrongFalsely : Prop := wearRenumbersRow.holds Try.pinned (OpenSpec.ofChange wearRenumbersWrong)

/-- 'coinagelaw21.WearAgain': WHATEVER THE INPUT: true; the input reads as it did. -/
def wearAgainSpec : ChangeSpec := { name := "wearAgain", fn := fun _ => fun
  | [d1, d2] => { results := [.lit (.bool true)], args := [d1, d2] }
  | _ => none }
def wearAgainRow : OpenClaim := { program := "ytdbkhiobchkjjaa", sum := "c2d6bd1d0b24bc7352e389d1698704213045ea0e1fbbcd9c2cfd84c4a63edf01", func := "coinage/coinagelaw21.WearAgain", spec := "wearAgain", unfollowed := true, recurses := true, apart := false }
def WearAgainSaid : Prop := wearAgainRow.holds Try.pinned (OpenSpec.ofChange wearAgainSpec)

/-- ITS FALSE NEIGHBOUR: 'it returns false'. Refute it at one input. -/
def wearAgainWrong : ChangeSpec := { name := "wearAgain", fn := fun _ => fun
  | [d1, d2] => { results := [.lit (.bool false)], args := [d1, d2] }
  | _ => none }
def WearAgainWrongFalsely : Prop := wearAgainRow.holds Try.pinned (OpenSpec.ofChange wearAgainWrong)

/- THE SECOND FORM. 'bulk': how many values and letters a reading holds, each counted each time it is reached (what is shared counts as often as it is met; a slice's spare places count too). A statement '..UptoSaid' is the law's where the arguments, and the package variables that the reading takes, are together of bulk at most 1048576: NARROWER than '..Said'. Prove '..Said' where nothing that the law and all that it calls make is longer than what came in: it says more and counts as full. Else prove '..UptoSaid'. A law counts once. -/
mutual
def uptoBulk {H : Type} : DataW H → Nat
  | .lit (.string bytes) => bytes.length + 1
  | .lit _ => 1
  | .nil => 1
  | .ptr d => uptoBulk d + 1
  | .slice elems spare => uptoBulkAll elems + uptoBulkAll spare + 1
  | .agg parts => uptoBulkAll parts + 1
  | .iface _ d => uptoBulk d + 1
  | .map entries => uptoBulkEntries entries + 1
  | .held _ => 1
def uptoBulkAll {H : Type} : List (DataW H) → Nat
  | [] => 0
  | d :: r => uptoBulk d + uptoBulkAll r
def uptoBulkEntries {H : Type} : List (Lit × DataW H) → Nat
  | [] => 0
  | x :: r => uptoBulkEntry x + uptoBulkEntries r
def uptoBulkEntry {H : Type} : Lit × DataW H → Nat
  | (.string bytes, d) => bytes.length + uptoBulk d + 1
  | (_, d) => uptoBulk d + 1
 end
def uptoSmall : (H : Type) → List (DataW H) → Bool := fun _ ds => decide (uptoBulkAll ds ≤ 1048576)
def OpenSpec.upto (s : _root_.Go.ChangeSpec) : _root_.Go.OpenSpec := { _root_.Go.OpenSpec.ofChange s with cond := some uptoSmall }

/-- 'coinagelaw21.WearAdvances', WHERE WHAT IT READS IS OF BULK AT MOST 1048576: true; the input reads as it did. -/
def wearAdvancesUptoRow : OpenClaim := { program := "ytdbkhiobchkjjaa", sum := "c2d6bd1d0b24bc7352e389d1698704213045ea0e1fbbcd9c2cfd84c4a63edf01", func := "coinage/coinagelaw21.WearAdvances", spec := "wearAdvances", unfollowed := true, recurses := true, apart := false, narrowed := true }
def WearAdvancesUptoSaid : Prop := wearAdvancesUptoRow.holds Try.pinned (OpenSpec.upto wearAdvancesSpec)

/-- 'coinagelaw21.WearOrders', WHERE WHAT IT READS IS OF BULK AT MOST 1048576: true; the input reads as it did. -/
def wearOrdersUptoRow : OpenClaim := { program := "ytdbkhiobchkjjaa", sum := "c2d6bd1d0b24bc7352e389d1698704213045ea0e1fbbcd9c2cfd84c4a63edf01", func := "coinage/coinagelaw21.WearOrders", spec := "wearOrders", unfollowed := true, recurses := true, apart := false, narrowed := true }
def WearOrdersUptoSaid : Prop := wearOrdersUptoRow.holds Try.pinned (OpenSpec.upto wearOrdersSpec)

/-- 'coinagelaw21.WearArcs', WHERE WHAT IT READS IS OF BULK AT MOST 1048576: true; the input reads as it did. -/
def wearArcsUptoRow : OpenClaim := { program := "ytdbkhiobchkjjaa", sum := "c2d6bd1d0b24bc7352e389d1698704213045ea0e1fbbcd9c2cfd84c4a63edf01", func := "coinage/coinagelaw21.WearArcs", spec := "wearArcs", unfollowed := true, recurses := true, apart := false, narrowed := true }
def WearArcsUptoSaid : Prop := wearArcsUptoRow.holds Try.pinned (OpenSpec.upto wearArcsSpec)

/-- 'coinagelaw21.WearClashes', WHERE WHAT IT READS IS OF BULK AT MOST 1048576: true; the input reads as it did. -/
def wearClashesUptoRow : OpenClaim := { program := "ytdbkhiobchkjjaa", sum := "c2d6bd1d0b24bc7352e389d1698704213045ea0e1fbbcd9c2cfd84c4a63edf01", func := "coinage/coinagelaw21.WearClashes", spec := "wearClashes", unfollowed := true, recurses := true, apart := false, narrowed := true }
def WearClashesUptoSaid : Prop := wearClashesUptoRow.holds Try.pinned (OpenSpec.upto wearClashesSpec)

/-- 'coinagelaw21.WearPairs', WHERE WHAT IT READS IS OF BULK AT MOST 1048576: true; the input reads as it did. -/
def wearPairsUptoRow : OpenClaim := { program := "ytdbkhiobchkjjaa", sum := "c2d6bd1d0b24bc7352e389d1698704213045ea0e1fbbcd9c2cfd84c4a63edf01", func := "coinage/coinagelaw21.WearPairs", spec := "wearPairs", unfollowed := true, recurses := true, apart := false, narrowed := true }
def WearPairsUptoSaid : Prop := wearPairsUptoRow.holds Try.pinned (OpenSpec.upto wearPairsSpec)

/-- 'coinagelaw21.WearRenumbers', WHERE WHAT IT READS IS OF BULK AT MOST 1048576: true; the input reads as it did. -/
def wearRenumbersUptoRow : OpenClaim := { program := "ytdbkhiobchkjjaa", sum := "c2d6bd1d0b24bc7352e389d1698704213045ea0e1fbbcd9c2cfd84c4a63edf01", func := "coinage/coinagelaw21.WearRenumbers", spec := "wearRenumbers", unfollowed := true, recurses := true, apart := false, narrowed := true }
def WearRenumbersUptoSaid : Prop := wearRenumbersUptoRow.holds Try.pinned (OpenSpec.upto wearRenumbersSpec)

/-- 'coinagelaw21.WearAgain', WHERE WHAT IT READS IS OF BULK AT MOST 1048576: true; the input reads as it did. -/
def wearAgainUptoRow : OpenClaim := { program := "ytdbkhiobchkjjaa", sum := "c2d6bd1d0b24bc7352e389d1698704213045ea0e1fbbcd9c2cfd84c4a63edf01", func := "coinage/coinagelaw21.WearAgain", spec := "wearAgain", unfollowed := true, recurses := true, apart := false, narrowed := true }
def WearAgainUptoSaid : Prop := wearAgainUptoRow.holds Try.pinned (OpenSpec.upto wearAgainSpec)

end Rows
end Go.Proofs.Ytdbkhiobchkjjaa
