/-
  Bound returns the sum over the groups, or its error.
-/
import Derived.Test.YtjplkpppjlgheaaLawL
import Derived.Test.YtjplkpppjlgheaaLawF
set_option linter.unusedVariables false
set_option linter.unusedSimpArgs false
-- P p_30.txt
open Go Go.AL Go.RowKit
namespace Go.Proofs.Ytjplkpppjlgheaa
theorem SeriationBounds_fn : ∀ xs, TyArgs [(false, [.int .i64]), (false, [.sl [.sl [.int .i64]]]), (false, [.sl [.sl [.int .i64]]])] xs → FnR Try.prog 8 xs [.c (.B true)] := by
  intro xs h
  obtain ⟨d0, _, rfl, h0, h⟩ := h.cons_inv
  obtain ⟨d1, _, rfl, h1, h⟩ := h.cons_inv
  obtain ⟨d2, _, rfl, h2, h⟩ := h.cons_inv
  obtain rfl := h.nil_inv
  obtain ⟨x0, _, rfl, _, g0⟩ := h0.int_inv
  obtain rfl := g0.nil_inv
  obtain ⟨x1, _, rfl, g1⟩ := tab_of h1
  obtain rfl := g1.nil_inv
  obtain ⟨x2, _, rfl, g2⟩ := tab_of h2
  obtain rfl := g2.nil_inv
  exact v8 x0 x1 x2
theorem SeriationBounds_holds : Rows.SeriationBoundsSaid :=
  OpenClaim.holds_of_wide 8 Try.f8 rfl rfl rfl rfl rfl rfl rfl ⟨rfl, rfl, rfl, rfl, rfl⟩ rfl rfl rfl rfl rfl (by kernel_rfl) Try.func8 (by kernel_rfl)
    (of_decide_eq_true (by kernel_rfl)) (by unfold Func.isWrapper; first | (rw [if_pos (by decide +kernel)]; kernel_rfl) | (rw [if_neg (by decide +kernel)]; exact ⟨rfl, rfl⟩))
    (fun os started H enc _ => law_lifted (s := Rows.seriationBoundsSpec) (C := Try.checked) (n := 12) Try.own Try.laidOut (by kernel_rfl) Try.func8 (by decide +kernel) rfl (by kernel_rfl) rfl (by kernel_rfl) (fun H ds h => by
      match ds, h with
      | [d1, d2, d3], _ => rfl) SeriationBounds_fn os started H enc
      (ChangeSpec.witness6 (enc := enc) (C := Try.checked) false ⟨#[], #[.int .i64 0, .slice none 0 0, .slice none 0 0], []⟩ 12 (by kernel_rfl) (by kernel_rfl) (by kernel_rfl) (by kernel_rfl)))
end Go.Proofs.Ytjplkpppjlgheaa

