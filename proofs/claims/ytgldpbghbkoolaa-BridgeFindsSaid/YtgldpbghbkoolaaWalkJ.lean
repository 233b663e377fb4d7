/-
  Lemmas for the proof: no statement of its own.
-/
import Derived.Test.YtgldpbghbkoolaaWalkE
set_option linter.unusedVariables false
set_option linter.unusedSimpArgs false
-- P p_15.txt
open Go Go.AL Go.RowKit
namespace Go.Proofs.Ytgldpbghbkoolaa
set_option maxRecDepth 20000
theorem iN_iRow (q : List Nat) : iN q = iRow (q.map fun x : Nat => (x : Int)) := by unfold iN iRow; rw [List.map_map]; rfl
theorem n21N (q : List Nat) (x : Nat) : FnR Try.prog 21 [.c (.sl 1 (iN q)), .I x] [.c (.B (decide (x ∈ q)))] := by
  have h := f60 (q.map fun x : Nat => (x : Int)) x
  rw [Row, ← iRow, ← iN_iRow] at h
  have e : decide ((x : Int) ∈ q.map fun x : Nat => (x : Int)) = decide (x ∈ q) := by
    rw [decide_eq_decide, List.mem_map]
    exact ⟨fun ⟨y, h1, h2⟩ => by have : y = x := by omega
                                 exact this ▸ h1, fun h => ⟨x, h, rfl⟩⟩
  rwa [e] at h
/-- the links that are out -/
def goneL (ls : List Lk) (out : List Int) : List Bool := ls.map fun x => decide (x.id ∈ out)
theorem goneL_nth (ls : List Lk) (out : List Int) (k : Nat) (hk : k < ls.length) : nth (goneL ls out) k = decide ((nth ls k).id ∈ out) := by
  unfold goneL; rw [nth_eq _ k (by simpa using hk), nth_eq ls k hk]; simp
end Go.Proofs.Ytgldpbghbkoolaa

