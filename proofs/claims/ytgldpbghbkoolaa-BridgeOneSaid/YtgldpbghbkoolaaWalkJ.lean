/-
  Lemmas for the proof: no statement of its own.
-/
import Derived.Test.YtgldpbghbkoolaaWalkE
set_option linter.unusedVariables false
set_option linter.unusedSimpArgs false
-- P p_15.txt
open Go Go.AL Go.RowKit
namespace Go.Proofs.Ytgldpbghbkoolaa
set_option maxRecDepth 20000
theorem hopK_g {es : Es} {fl : List Int} {gone : List Bool} {cur k : Nat} {s : Sr} (hg : nth gone k = true) : hopK es fl gone cur s k = s := by unfold hopK; rw [if_pos hg]
theorem hopK_o {es : Es} {fl : List Int} {gone : List Bool} {cur k x y : Nat} {s : Sr} (hg : nth gone k = false) (hE : nth es k = (x, y)) (hx : x = cur) (hy : y ≠ cur) : hopK es fl gone cur s k = if nth fl k ≠ 1 ∧ y ∉ s.q then ⟨s.fr.set y k, s.q ++ [y]⟩ else s := by
  unfold hopK
  rw [if_neg (by rw [hg]; simp), hE]
  simp only []
  rw [hop_neg (cur := cur) (x := y) (fun h => hy h.1)]
  unfold hop
  by_cases h : nth fl k ≠ 1 ∧ y ∉ s.q
  · rw [if_pos h, if_pos ⟨hx, h⟩]
  · rw [if_neg h, if_neg (fun h' => h h'.2)]
theorem hopK_r {es : Es} {fl : List Int} {gone : List Bool} {cur k x y : Nat} {s : Sr} (hg : nth gone k = false) (hE : nth es k = (x, y)) (hx : x ≠ cur) (hy : y = cur) : hopK es fl gone cur s k = if nth fl k ≠ -1 ∧ x ∉ s.q then ⟨s.fr.set x k, s.q ++ [x]⟩ else s := by
  unfold hopK
  rw [if_neg (by rw [hg]; simp), hE]
  simp only []
  rw [hop_neg (cur := cur) (x := x) (fun h => hx h.1)]
  unfold hop
  by_cases h : nth fl k ≠ -1 ∧ x ∉ s.q
  · rw [if_pos h, if_pos ⟨hy, h⟩]
  · rw [if_neg h, if_neg (fun h' => h h'.2)]
theorem hopK_n {es : Es} {fl : List Int} {gone : List Bool} {cur k x y : Nat} {s : Sr} (hE : nth es k = (x, y)) (hx : x ≠ cur) (hy : y ≠ cur) : hopK es fl gone cur s k = s := by
  unfold hopK
  split
  · rfl
  · rw [hE]
    simp only []
    rw [hop_neg (cur := cur) (x := x) (fun h => hx h.1), hop_neg (cur := cur) (x := y) (fun h => hy h.1)]
theorem iN_iRow (q : List Nat) : iN q = iRow (q.map fun x : Nat => (x : Int)) := by unfold iN iRow; rw [List.map_map]; rfl
theorem n21N (q : List Nat) (x : Nat) : FnR Try.prog 21 [.c (.sl 1 (iN q)), .I x] [.c (.B (decide (x ∈ q)))] := by
  have h := f60 (q.map fun x : Nat => (x : Int)) x
  rw [Row, ← iRow, ← iN_iRow] at h
  have e : decide ((x : Int) ∈ q.map fun x : Nat => (x : Int)) = decide (x ∈ q) := by
    rw [decide_eq_decide, List.mem_map]
    exact ⟨fun ⟨y, h1, h2⟩ => by have : y = x := by omega
                                 exact this ▸ h1, fun h => ⟨x, h, rfl⟩⟩
  rwa [e] at h
/-- the links that are out -/
def goneL (ls : List Lk) (out : List Int) : List Bool := ls.map fun x => decide (x.id ∈ out)
theorem goneL_nth (ls : List Lk) (out : List Int) (k : Nat) (hk : k < ls.length) : nth (goneL ls out) k = decide ((nth ls k).id ∈ out) := by
  unfold goneL; rw [nth_eq _ k (by simpa using hk), nth_eq ls k hk]; simp
theorem or_pl {l : List Die} {x : Lk} (ho : x.o ∈ l) (hr : x.r ∈ l) : plN l x.o ≠ plN l x.r := fun h => by
  have := (plc_ne ho hr).1 h
  have := congrArg Die.side this
  simp [Lk.o, Lk.r] at this
end Go.Proofs.Ytgldpbghbkoolaa

