/-
  Lemmas for the proof: no statement of its own.
-/
import Derived.Test.YtciglfmfemidnaaWalkA
import Derived.Test.YtciglfmfemidnaaAlD
set_option linter.unusedVariables false
set_option linter.unusedSimpArgs false
-- P p_30s.txt
open Go Go.AL Go.RowKit
namespace Go.Proofs.Ytciglfmfemidnaa
set_option maxRecDepth 20000

end Go.Proofs.Ytciglfmfemidnaa

-- P p_30s.txt
open Go Go.AL Go.RowKit
namespace Go.Proofs.Ytciglfmfemidnaa
set_option maxRecDepth 20000

/-! ### the walk over the orders -/
structure Wok (n k : Nat) (t : List (List Int)) (b left : List Int) : Prop where
  hb : b.length + k = n
  hn : n ≤ 7
  ht : t.length ≤ 16
  hr : ∀ i, i < t.length → (nth t i).length ≤ 1000
  hl : left.length = t.length
  hv : ∀ i, i < t.length → (k : Int) - 1000 ≤ nth left i ∧ nth left i ≤ 1000
/-! ### what it makes -/
end Go.Proofs.Ytciglfmfemidnaa

-- P p_30s.txt
open Go Go.AL Go.RowKit
namespace Go.Proofs.Ytciglfmfemidnaa
set_option maxRecDepth 20000

/-! ### two ascending lists with the same members -/
theorem pw_ext : ∀ {a b : List Int}, a.Pairwise (· < ·) → b.Pairwise (· < ·) → (∀ x, x ∈ a ↔ x ∈ b) → a = b
  | [], [], _, _, _ => rfl
  | [], y :: b, _, _, h => absurd ((h y).2 (by simp)) (by simp)
  | x :: a, [], _, _, h => absurd ((h x).1 (by simp)) (by simp)
  | x :: a, y :: b, ha, hb, h => by
    rw [List.pairwise_cons] at ha hb
    have h1 := (h x).1 (by simp)
    have h2 := (h y).2 (by simp)
    have e : x = y := by
      rcases List.mem_cons.1 h1 with e | h1
      · exact e
      · rcases List.mem_cons.1 h2 with e | h2
        · exact e.symm
        · have := ha.1 y h2; have := hb.1 x h1; omega
    subst e
    congr 1
    refine pw_ext ha.2 hb.2 fun z => ⟨fun hz => ?_, fun hz => ?_⟩
    · rcases List.mem_cons.1 ((h z).1 (List.mem_cons_of_mem _ hz)) with e | h'
      · have := ha.1 z hz; omega
      · exact h'
    · rcases List.mem_cons.1 ((h z).2 (List.mem_cons_of_mem _ hz)) with e | h'
      · have := hb.1 z hz; omega
      · exact h'
theorem pw_nodup {l : List Int} (h : l.Pairwise (· < ·)) : l.Nodup := h.imp fun h e => by omega

/-! ### the program's rows of a part -/
theorem idx_nth {l : List Int} (h : l.Nodup) {k : Nat} (hk : k < l.length) : idx l (nth l k) = k := by
  refine idx_found hk rfl fun j hj e => ?_
  rw [nth_eq l j (by omega), nth_eq l k hk] at e
  exact (List.pairwise_iff_getElem.1 h j k (by omega) hk hj) e
def obs (p : Int → List (List Int) → Bool) (n : Int) (t : List (List Int)) (rows cols : List Int) : Bool := decide (cutErr n t rows cols = 0) && !p cols.length (cutR n t rows cols)
end Go.Proofs.Ytciglfmfemidnaa

-- P p_30s.txt
open Go Go.AL Go.RowKit
namespace Go.Proofs.Ytciglfmfemidnaa
set_option maxRecDepth 20000

/-! ### the reference's orders -/
def runsN (row order : List Int) : Nat → Nat
  | 0 => 0
  | k + 1 => runsN row order k + if nth order k ∈ row ∧ (k = 0 ∨ nth order (k - 1) ∉ row) then 1 else 0
theorem runsN_le (row order : List Int) : ∀ k, runsN row order k ≤ k
  | 0 => Nat.le_refl _
  | k + 1 => by
    have := runsN_le row order k
    simp only [runsN]
    split <;> omega
def isOrd (o : List Int) (n : Int) : Bool := decide ((o.length : Int) = n ∧ ∀ i, i < o.length → 0 ≤ nth o i ∧ nth o i < n ∧ ∀ k, k < i → nth o i ≠ nth o k)
def runErr (n : Int) (t : List (List Int)) (o : List Int) : Int := if validT n t = false then 1 else if isOrd o n = false then 2 else 0
def runsL (n : Int) (t : List (List Int)) (o : List Int) : List Int := if runErr n t o = 0 then t.map fun r => ((runsN r o o.length : Nat) : Int) else []
def gapN (l : List Int) : Nat → Int
  | 0 => 0
  | k + 1 => gapN l k + max (nth l k - 1) 0
theorem gapN_le {l : List Int} (h : ∀ x ∈ l, x ≤ 1000000) : ∀ k, k ≤ l.length → 0 ≤ gapN l k ∧ gapN l k ≤ k * 1000000
  | 0, _ => by simp [gapN]
  | k + 1, hk => by
    have ih := gapN_le h k (by omega)
    have := h _ (nth_mem l k (by omega))
    simp only [gapN]
    omega
def gapsV (n : Int) (t : List (List Int)) (o : List Int) : Int := gapN (runsL n t o) (runsL n t o).length
theorem runsL_len (n : Int) (t : List (List Int)) (o : List Int) : (runsL n t o).length ≤ 16 ∧ ∀ x ∈ runsL n t o, 0 ≤ x ∧ x ≤ 7 := by
  unfold runsL runErr
  cases hv : validT n t with
  | false => simp
  | true =>
    obtain ⟨h1, h2, h3, h4⟩ := validT_of hv
    cases ho : isOrd o n with
    | false => simp
    | true =>
      have ho' := of_decide_eq_true ho
      simp
      refine ⟨h3, fun r _ => ?_⟩
      have := runsN_le r o o.length
      omega
end Go.Proofs.Ytciglfmfemidnaa

