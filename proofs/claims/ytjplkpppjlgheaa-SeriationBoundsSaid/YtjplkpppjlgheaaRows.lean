/-
  No cell of these rows narrows 'for every input' (looked for: loops, veiled, ifaces, maps, wideKeys, modest, calm, conditions, laid).
  DERIVED. THE GIVEN ROWS OF THIS SEAT. 8 by the template 'for every input the law returns true; each argument reads behind the call as it read before'; 0 by the template 'total and deterministic' (their statements: YtjplkpppjlgheaaTotals.lean).
  GIVEN WITH THE SEED: the statements are not yours to turn. If you find one false, say at which input.
  Laid BY PROGRAM, IN A SANDBOX (cutbox-rows.mjs): the forced cells as the released guide's own fill.sh prints them over the translation 33c8db575f70dfdb… (all of the seat's roots in one cut). By AI agents, Wed Nov 11 2026. No macro, syntax, notation, axiom, sorry.
-/
import Derived.Test.YtjplkpppjlgheaaChecked
import GoSem.Claim
import GoSem.ClaimJoined
import GoSem.ClaimMapViews
import Derived.JoinedTies
import Derived.KernelRfl
namespace Go.Proofs.Ytjplkpppjlgheaa
/- THE CELL 'sum', in the pinned program and in every row, IS THE sha256 OF THE DUMP (.gsa) THAT YtjplkpppjlgheaaProg.lean LOADS. Nothing in Lean hashes anything: it is a label: what it is worth is what the hold of that sum in a sandbox is worth. -/
noncomputable def Try.pinned : Pinned := { name := "ytjplkpppjlgheaa", sum := "33c8db575f70dfdbf537124bad631029d4b17be6ba293dddd65e892c3ad2872e", checked := Try.checked }
namespace Rows
def none {H : Type} : Left H := { results := [], args := [] }

/-- 'coinagelaw30.SeriationLeast': WHATEVER THE INPUT: true; the input reads as it did. -/
def seriationLeastSpec : ChangeSpec := { name := "seriationLeast", fn := fun _ => fun
  | [d1, d2] => { results := [.lit (.bool true)], args := [d1, d2] }
  | _ => none }
def seriationLeastRow : OpenClaim := { program := "ytjplkpppjlgheaa", sum := "33c8db575f70dfdbf537124bad631029d4b17be6ba293dddd65e892c3ad2872e", func := "coinage/coinagelaw30.SeriationLeast", spec := "seriationLeast", unfollowed := true, recurses := true, apart := false }
def SeriationLeastSaid : Prop := seriationLeastRow.holds Try.pinned (OpenSpec.ofChange seriationLeastSpec)

/-- ITS FALSE NEIGHBOUR: 'it returns false'. Refute it at one input. -/
def seriationLeastWrong : ChangeSpec := { name := "seriationLeast", fn := fun _ => fun
  | [d1, d2] => { results := [.lit (.bool false)], args := [d1, d2] }
  | _ => none }
def SeriationLeastWrongFalsely : Prop := seriationLeastRow.holds Try.pinned (OpenSpec.ofChange seriationLeastWrong)

/-- 'coinagelaw30.SeriationCounts': WHATEVER THE INPUT: true; the input reads as it did. -/
def seriationCountsSpec : ChangeSpec := { name := "seriationCounts", fn := fun _ => fun
  | [d1, d2, d3] => { results := [.lit (.bool true)], args := [d1, d2, d3] }
  | _ => none }
def seriationCountsRow : OpenClaim := { program := "ytjplkpppjlgheaa", sum := "33c8db575f70dfdbf537124bad631029d4b17be6ba293dddd65e892c3ad2872e", func := "coinage/coinagelaw30.SeriationCounts", spec := "seriationCounts", unfollowed := true, recurses := true, apart := false }
def SeriationCountsSaid : Prop := seriationCountsRow.holds Try.pinned (OpenSpec.ofChange seriationCountsSpec)

/-- ITS FALSE NEIGHBOUR: 'it returns false'. Refute it at one input. -/
def seriationCountsWrong : ChangeSpec := { name := "seriationCounts", fn := fun _ => fun
  | [d1, d2, d3] => { results := [.lit (.bool false)], args := [d1, d2, d3] }
  | _ => none }
def SeriationCountsWrongFalsely : Prop := seriationCountsRow.holds Try.pinned (OpenSpec.ofChange seriationCountsWrong)

/-- 'coinagelaw30.SeriationRows': WHATEVER THE INPUT: true; the input reads as it did. -/
def seriationRowsSpec : ChangeSpec := { name := "seriationRows", fn := fun _ => fun
  | [d1, d2, d3] => { results := [.lit (.bool true)], args := [d1, d2, d3] }
  | _ => none }
def seriationRowsRow : OpenClaim := { program := "ytjplkpppjlgheaa", sum := "33c8db575f70dfdbf537124bad631029d4b17be6ba293dddd65e892c3ad2872e", func := "coinage/coinagelaw30.SeriationRows", spec := "seriationRows", unfollowed := true, recurses := true, apart := false }
def SeriationRowsSaid : Prop := seriationRowsRow.holds Try.pinned (OpenSpec.ofChange seriationRowsSpec)

/-- ITS FALSE NEIGHBOUR: 'it returns false'. Refute it at one input. -/
def seriationRowsWrong : ChangeSpec := { name := "seriationRows", fn := fun _ => fun
  | [d1, d2, d3] => { results := [.lit (.bool false)], args := [d1, d2, d3] }
  | _ => none }
def SeriationRowsWrongFalsely : Prop := seriationRowsRow.holds Try.pinned (OpenSpec.ofChange seriationRowsWrong)

/-- 'coinagelaw30.SeriationLocal': WHATEVER THE INPUT: true; the input reads as it did. -/
def seriationLocalSpec : ChangeSpec := { name := "seriationLocal", fn := fun _ => fun
  | [d1, d2, d3] => { results := [.lit (.bool true)], args := [d1, d2, d3] }
  | _ => none }
def seriationLocalRow : OpenClaim := { program := "ytjplkpppjlgheaa", sum := "33c8db575f70dfdbf537124bad631029d4b17be6ba293dddd65e892c3ad2872e", func := "coinage/coinagelaw30.SeriationLocal", spec := "seriationLocal", unfollowed := true, recurses := true, apart := false }
def SeriationLocalSaid : Prop := seriationLocalRow.holds Try.pinned (OpenSpec.ofChange seriationLocalSpec)

/-- ITS FALSE NEIGHBOUR: 'it returns false'. Refute it at one input. -/
def seriationLocalWrong : ChangeSpec := { name := "seriationLocal", fn := fun _ => fun
  | [d1, d2, d3] => { results := [.lit (.bool false)], args := [d1, d2, d3] }
  | _ => none }
def SeriationLocalWrongFalsely : Prop := seriationLocalRow.holds Try.pinned (OpenSpec.ofChange seriationLocalWrong)

/-- 'coinagelaw30.SeriationFalls': WHATEVER THE INPUT: true; the input reads as it did. -/
def seriationFallsSpec : ChangeSpec := { name := "seriationFalls", fn := fun _ => fun
  | [d1, d2, d3] => { results := [.lit (.bool true)], args := [d1, d2, d3] }
  | _ => none }
def seriationFallsRow : OpenClaim := { program := "ytjplkpppjlgheaa", sum := "33c8db575f70dfdbf537124bad631029d4b17be6ba293dddd65e892c3ad2872e", func := "coinage/coinagelaw30.SeriationFalls", spec := "seriationFalls", unfollowed := true, recurses := true, apart := false }
def SeriationFallsSaid : Prop := seriationFallsRow.holds Try.pinned (OpenSpec.ofChange seriationFallsSpec)

/-- ITS FALSE NEIGHBOUR: 'it returns false'. Refute it at one input. -/
def seriationFallsWrong : ChangeSpec := { name := "seriationFalls", fn := fun _ => fun
  | [d1, d2, d3] => { results := [.lit (.bool false)], args := [d1, d2, d3] }
  | _ => none }
def SeriationFallsWrongFalsely : Prop := seriationFallsRow.holds Try.pinned (OpenSpec.ofChange seriationFallsWrong)

/-- 'coinagelaw30.SeriationBounds': WHATEVER THE INPUT: true; the input reads as it did. -/
def seriationBoundsSpec : ChangeSpec := { name := "seriationBounds", fn := fun _ => fun
  | [d1, d2, d3] => { results := [.lit (.bool true)], args := [d1, d2, d3] }
  | _ => none }
def seriationBoundsRow : OpenClaim := { program := "ytjplkpppjlgheaa", sum := "33c8db575f70dfdbf537124bad631029d4b17be6ba293dddd65e892c3ad2872e", func := "coinage/coinagelaw30.SeriationBounds", spec := "seriationBounds", unfollowed := true, recurses := true, apart := false }
def SeriationBoundsSaid : Prop := seriationBoundsRow.holds Try.pinned (OpenSpec.ofChange seriationBoundsSpec)

/-- ITS FALSE NEIGHBOUR: 'it returns false'. Refute it at one input. -/
def seriationBoundsWrong : ChangeSpec := { name := "seriationBounds", fn := fun _ => fun
  | [d1, d2, d3] => { results := [.lit (.bool false)], args := [d1, d2, d3] }
  | _ => none }
def SeriationBoundsWrongFalsely : Prop := seriationBoundsRow.holds Try.pinned (OpenSpec.ofChange seriationBoundsWrong)

/-- 'coinagelaw30.SeriationLower': WHATEVER THE INPUT: true; the input reads as it did. -/
def seriationLowerSpec : ChangeSpec := { name := "seriationLower", fn := fun _ => fun
  | [d1, d2, d3] => { results := [.lit (.bool true)], args := [d1, d2, d3] }
  | _ => none }
def seriationLowerRow : OpenClaim := { program := "ytjplkpppjlgheaa", sum := "33c8db575f70dfdbf537124bad631029d4b17be6ba293dddd65e892c3ad2872e", func := "coinage/coinagelaw30.SeriationLower", spec := "seriationLower", unfollowed := true, recurses := true, apart := false }
def SeriationLowerSaid : Prop := seriationLowerRow.holds Try.pinned (OpenSpec.ofChange seriationLowerSpec)

/-- ITS FALSE NEIGHBOUR: 'it returns false'. Refute it at one input. -/
def seriationLowerWrong : ChangeSpec := { name := "seriationLower", fn := fun _ => fun
  | [d1, d2, d3] => { results := [.lit (.bool false)], args := [d1, d2, d3] }
  | _ => none }
def SeriationLowerWrongFalsely : Prop := seriationLowerRow.holds Try.pinned (OpenSpec.ofChange seriationLowerWrong)

/-- 'coinagelaw30.SeriationBest': WHATEVER THE INPUT: true; the input reads as it did. -/
def seriationBestSpec : ChangeSpec := { name := "seriationBest", fn := fun _ => fun
  | [d1, d2, d3] => { results := [.lit (.bool true)], args := [d1, d2, d3] }
  | _ => none }
def seriationBestRow : OpenClaim := { program := "ytjplkpppjlgheaa", sum := "33c8db575f70dfdbf537124bad631029d4b17be6ba293dddd65e892c3ad2872e", func := "coinage/coinagelaw30.SeriationBest", spec := "seriationBest", unfollowed := true, recurses := true, apart := false }
def SeriationBestSaid : Prop := seriationBestRow.holds Try.pinned (OpenSpec.ofChange seriationBestSpec)

/-- ITS FALSE NEIGHBOUR: 'it returns false'. Refute it at one input. -/
def seriationBestWrong : ChangeSpec := { name := "seriationBest", fn := fun _ => fun
  | [d1, d2, d3] => { results := [.lit (.bool false)], args := [d1, d2, d3] }
  | _ => none }
def SeriationBestWrongFalsely : Prop := seriationBestRow.holds Try.pinned (OpenSpec.ofChange seriationBestWrong)

/- THE SECOND FORM. 'bulk': how many values and letters a reading holds, each counted each time it is reached (what is shared counts as often as it is met; a slice's spare places count too). A statement '..UptoSaid' is the law's where the arguments, and the package variables that the reading takes, are together of bulk at most 1048576: NARROWER than '..Said'. Prove '..Said' where nothing that the law and all that it calls make is longer than what came in: it says more and counts as full. Else prove '..UptoSaid'. A law counts once. -/
mutual
def uptoBulk {H : Type} : DataW H → Nat
  | .lit (.string bytes) => bytes.length + 1
  | .lit _ => 1
  | .nil => 1
  | .ptr d => uptoBulk d + 1
  | .slice elems spare => uptoBulkAll elems + uptoBulkAll spare + 1
  | .agg parts => uptoBulkAll parts + 1
  | .iface _ d => uptoBulk d + 1
  | .map entries => uptoBulkEntries entries + 1
  | .held _ => 1
def uptoBulkAll {H : Type} : List (DataW H) → Nat
  | [] => 0
  | d :: r => uptoBulk d + uptoBulkAll r
def uptoBulkEntries {H : Type} : List (Lit × DataW H) → Nat
  | [] => 0
  | x :: r => uptoBulkEntry x + uptoBulkEntries r
def uptoBulkEntry {H : Type} : Lit × DataW H → Nat
  | (.string bytes, d) => bytes.length + uptoBulk d + 1
  | (_, d) => uptoBulk d + 1
 end
def uptoSmall : (H : Type) → List (DataW H) → Bool := fun _ ds => decide (uptoBulkAll ds ≤ 1048576)
def OpenSpec.upto (s : _root_.Go.ChangeSpec) : _root_.Go.OpenSpec := { _root_.Go.OpenSpec.ofChange s with cond := some uptoSmall }

/-- 'coinagelaw30.SeriationLeast', WHERE WHAT IT READS IS OF BULK AT MOST 1048576: true; the input reads as it did. -/
def seriationLeastUptoRow : OpenClaim := { program := "ytjplkpppjlgheaa", sum := "33c8db575f70dfdbf537124bad631029d4b17be6ba293dddd65e892c3ad2872e", func := "coinage/coinagelaw30.SeriationLeast", spec := "seriationLeast", unfollowed := true, recurses := true, apart := false, narrowed := true }
def SeriationLeastUptoSaid : Prop := seriationLeastUptoRow.holds Try.pinned (OpenSpec.upto seriationLeastSpec)

/-- 'coinagelaw30.SeriationCounts', WHERE WHAT IT READS IS OF BULK AT MOST 1048576: true; the input reads as it did. -/
def seriationCountsUptoRow : OpenClaim := { program := "ytjplkpppjlgheaa", sum := "33c8db575f70dfdbf537124bad631029d4b17be6ba293dddd65e892c3ad2872e", func := "coinage/coinagelaw30.SeriationCounts", spec := "seriationCounts", unfollowed := true, recurses := true, apart := false, narrowed := true }
def SeriationCountsUptoSaid : Prop := seriationCountsUptoRow.holds Try.pinned (OpenSpec.upto seriationCountsSpec)

/-- 'coinagelaw30.SeriationRows', WHERE WHAT IT READS IS OF BULK AT MOST 1048576: true; the input reads as it did. -/
def seriationRowsUptoRow : OpenClaim := { program := "ytjplkpppjlgheaa", sum := "33c8db575f70dfdbf537124bad631029d4b17be6ba293dddd65e892c3ad2872e", func := "coinage/coinagelaw30.SeriationRows", spec := "seriationRows", unfollowed := true, recurses := true, apart := false, narrowed := true }
def SeriationRowsUptoSaid : Prop := seriationRowsUptoRow.holds Try.pinned (OpenSpec.upto seriationRowsSpec)

/-- 'coinagelaw30.SeriationLocal', WHERE WHAT IT READS IS OF BULK AT MOST 1048576: true; the input reads as it did. -/
def seriationLocalUptoRow : OpenClaim := { program := "ytjplkpppjlgheaa", sum := "33c8db575f70dfdbf537124bad631029d4b17be6ba293dddd65e892c3ad2872e", func := "coinage/coinagelaw30.SeriationLocal", spec := "seriationLocal", unfollowed := true, recurses := true, apart := false, narrowed := true }
def SeriationLocalUptoSaid : Prop := seriationLocalUptoRow.holds Try.pinned (OpenSpec.upto seriationLocalSpec)

/-- 'coinagelaw30.SeriationFalls', WHERE WHAT IT READS IS OF BULK AT MOST 1048576: true; the input reads as it did. -/
def seriationFallsUptoRow : OpenClaim := { program := "ytjplkpppjlgheaa", sum := "33c8db575f70dfdbf537124bad631029d4b17be6ba293dddd65e892c3ad2872e", func := "coinage/coinagelaw30.SeriationFalls", spec := "seriationFalls", unfollowed := true, recurses := true, apart := false, narrowed := true }
def SeriationFallsUptoSaid : Prop := seriationFallsUptoRow.holds Try.pinned (OpenSpec.upto seriationFallsSpec)

/-- 'coinagelaw30.SeriationBounds', WHERE WHAT IT READS IS OF BULK AT MOST 1048576: true; the input reads as it did. -/
def seriationBoundsUptoRow : OpenClaim := { program := "ytjplkpppjlgheaa", sum := "33c8db575f70dfdbf537124bad631029d4b17be6ba293dddd65e892c3ad2872e", func := "coinage/coinagelaw30.SeriationBounds", spec := "seriationBounds", unfollowed := true, recurses := true, apart := false, narrowed := true }
def SeriationBoundsUptoSaid : Prop := seriationBoundsUptoRow.holds Try.pinned (OpenSpec.upto seriationBoundsSpec)

/-- 'coinagelaw30.SeriationLower', WHERE WHAT IT READS IS OF BULK AT MOST 1048576: true; the input reads as it did. -/
def seriationLowerUptoRow : OpenClaim := { program := "ytjplkpppjlgheaa", sum := "33c8db575f70dfdbf537124bad631029d4b17be6ba293dddd65e892c3ad2872e", func := "coinage/coinagelaw30.SeriationLower", spec := "seriationLower", unfollowed := true, recurses := true, apart := false, narrowed := true }
def SeriationLowerUptoSaid : Prop := seriationLowerUptoRow.holds Try.pinned (OpenSpec.upto seriationLowerSpec)

/-- 'coinagelaw30.SeriationBest', WHERE WHAT IT READS IS OF BULK AT MOST 1048576: true; the input reads as it did. -/
def seriationBestUptoRow : OpenClaim := { program := "ytjplkpppjlgheaa", sum := "33c8db575f70dfdbf537124bad631029d4b17be6ba293dddd65e892c3ad2872e", func := "coinage/coinagelaw30.SeriationBest", spec := "seriationBest", unfollowed := true, recurses := true, apart := false, narrowed := true }
def SeriationBestUptoSaid : Prop := seriationBestUptoRow.holds Try.pinned (OpenSpec.upto seriationBestSpec)

end Rows
end Go.Proofs.Ytjplkpppjlgheaa
