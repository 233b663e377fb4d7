/-
  A further link joins two components or makes one more loop.
-/
import Derived.Test.YtlomngideedobaaWalkK
import Derived.Test.YtlomngideedobaaWalkA
set_option linter.unusedVariables false
set_option linter.unusedSimpArgs false
-- P p_14.txt
open Go Go.AL Go.RowKit
namespace Go.Proofs.Ytlomngideedobaa
theorem ComponentGrows_fn : ∀ xs, TyArgs [(true, grSh), (false, [.int .i64]), (false, [.int .i64])] xs → FnR Try.prog 6 xs [.c (.B true)] := by
  intro xs h
  obtain ⟨d1, _, rfl, h1, h⟩ := h.cons_inv
  obtain ⟨d2, _, rfl, h2, h⟩ := h.cons_inv
  obtain ⟨d3, _, rfl, h3, h⟩ := h.cons_inv
  obtain rfl := h.nil_inv
  obtain ⟨g, rfl⟩ := gr_of h1
  obtain ⟨a, _, rfl, _, h2⟩ := h2.int_inv
  obtain rfl := h2.nil_inv
  obtain ⟨b, _, rfl, _, h3⟩ := h3.int_inv
  obtain rfl := h3.nil_inv
  exact f6 g a b
theorem ComponentGrows_holds : Rows.ComponentGrowsSaid :=
  OpenClaim.holds_of_wide 6 Try.f6 rfl rfl rfl rfl rfl rfl rfl ⟨rfl, rfl, rfl, rfl, rfl⟩ rfl rfl rfl rfl rfl (by kernel_rfl) Try.func6 (by kernel_rfl)
    (of_decide_eq_true (by kernel_rfl)) (by unfold Func.isWrapper; first | (rw [if_pos (by decide +kernel)]; kernel_rfl) | (rw [if_neg (by decide +kernel)]; exact ⟨rfl, rfl⟩))
    (fun os started H enc _ => law_lifted (s := Rows.componentGrowsSpec) (C := Try.checked) (n := 12) Try.own Try.laidOut (by kernel_rfl) Try.func6 (by decide +kernel) rfl (by kernel_rfl) rfl (by kernel_rfl) (fun H ds h => by
      match ds, h with
      | [d1, d2, d3], _ => rfl) ComponentGrows_fn os started H enc
      (ChangeSpec.witness6 (enc := enc) (C := Try.checked) false ⟨#[], #[.agg #[.slice none 0 0, .slice none 0 0, .slice none 0 0], .int .i64 0, .int .i64 0], []⟩ 12 (by kernel_rfl) (by kernel_rfl) (by kernel_rfl) (by kernel_rfl)))
end Go.Proofs.Ytlomngideedobaa

