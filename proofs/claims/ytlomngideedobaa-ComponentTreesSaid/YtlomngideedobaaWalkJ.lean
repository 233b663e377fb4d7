/-
  Lemmas for the proof: no statement of its own.
-/
import Derived.Test.YtlomngideedobaaWalkI
import Derived.KernelRfl
set_option linter.unusedVariables false
set_option linter.unusedSimpArgs false
-- P p_14.txt
open Go Go.AL Go.RowKit
namespace Go.Proofs.Ytlomngideedobaa
set_option maxRecDepth 20000
end Go.Proofs.Ytlomngideedobaa

-- P p_14.txt
open Go Go.AL Go.RowKit
namespace Go.Proofs.Ytlomngideedobaa
set_option maxRecDepth 20000
/-! ### the graph of links by Id; the graph of a component -/
theorem pwI_ext {a b : List Int} (ha : a.Pairwise (· < ·)) (hb : b.Pairwise (· < ·)) (h : ∀ x, x ∈ a ↔ x ∈ b) : a = b :=
  List.Perm.eq_of_pairwise (fun x y _ _ h1 h2 => by omega) ha hb ((List.perm_ext_iff_of_nodup (ha.imp fun h => by omega) (hb.imp fun h => by omega)).2 h)
theorem valid_asc {g : Gr} (hv : validG g = true) : g.obv.Pairwise (· < ·) ∧ g.rev.Pairwise (· < ·) := by
  obtain ⟨a, b, _⟩ := (validG_iff g).1 hv
  unfold numV at a b
  simp only [Bool.and_eq_true] at a b
  exact ⟨ascV_asc a.1, ascV_asc b.1⟩
theorem valid_ids {g : Gr} (hv : validG g = true) : g.links.Pairwise fun x y => x.id < y.id := by
  obtain ⟨_, _, _, hl, _⟩ := (validG_iff g).1 hv
  have key : ∀ j, j < g.links.length → ∀ i, i < j → (nth g.links i).id < (nth g.links j).id := by
    intro j
    induction j with
    | zero => intro _ i hi; omega
    | succ j ih =>
      intro hj i hi
      have h1 := (hl (j + 1) hj).2.2.1 (by omega)
      simp only [Nat.add_sub_cancel] at h1
      rcases Nat.lt_succ_iff_lt_or_eq.1 hi with h2 | rfl
      · have := ih (by omega) i h2; omega
      · exact h1
  rw [List.pairwise_iff_getElem]
  intro i j hi hj hij
  have := key j hj i hij
  rwa [nth_eq _ i hi, nth_eq _ j hj] at this
end Go.Proofs.Ytlomngideedobaa

-- P p_14.txt
open Go Go.AL Go.RowKit
namespace Go.Proofs.Ytlomngideedobaa
set_option maxRecDepth 20000
/- coinage/coinagelaw14.ComponentPart -/
end Go.Proofs.Ytlomngideedobaa

