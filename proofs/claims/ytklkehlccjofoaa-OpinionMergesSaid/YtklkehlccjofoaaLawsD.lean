/-
  Merge returns what the reference returns, also with both sides exchanged.
-/
import Derived.Test.YtklkehlccjofoaaWalkC
import Derived.Test.YtklkehlccjofoaaAlD
import Derived.Test.YtklkehlccjofoaaRows
import Derived.Test.YtklkehlccjofoaaWalkJ
set_option linter.unusedVariables false
set_option linter.unusedSimpArgs false
-- P p_12.txt
open Go Go.AL Go.RowKit
namespace Go.Proofs.Ytklkehlccjofoaa
theorem Try.own : ownKnob Try.prog.godebug = none := by kernel_rfl
theorem Try.laidOut : laidOutB Try.prog = true := by kernel_rfl
theorem ent_of {ds : List CD} (h : Ty [.int .i64, .int .i64] ds) : ∃ p : Int × Int, ds = cdE p := by
  obtain ⟨a1, _, rfl, _, h⟩ := h.int_inv
  obtain ⟨a2, _, rfl, _, h⟩ := h.int_inv
  obtain rfl := h.nil_inv
  exact ⟨(a1, a2), rfl⟩
theorem ents_of {ds : List CD} (h : Ty [.sl [.int .i64, .int .i64]] ds) : ∃ l : List (Int × Int), ds = [EL l] := by
  obtain ⟨xs, r, rfl, hx, h⟩ := h.sl_inv
  obtain rfl := h.nil_inv
  obtain ⟨l, rfl⟩ := map_of (f := cdE) (fun x hx' => ent_of (hx x hx'))
  exact ⟨l, rfl⟩
theorem OpinionDiffs_fn : ∀ xs, TyArgs [(false, [.sl [.int .i64, .int .i64]]), (false, [.sl [.int .i64, .int .i64]])] xs → FnR Try.prog 3 xs [.c (.B true)] := by
  intro xs h
  obtain ⟨d1, _, rfl, h1, h⟩ := h.cons_inv
  obtain ⟨d2, _, rfl, h2, h⟩ := h.cons_inv
  obtain rfl := h.nil_inv
  obtain ⟨a, rfl⟩ := ents_of h1
  obtain ⟨b, rfl⟩ := ents_of h2
  exact f3 a b
theorem OpinionDiffs_holds : Rows.OpinionDiffsSaid :=
  OpenClaim.holds_of_wide 3 Try.f3 rfl rfl rfl rfl rfl rfl rfl ⟨rfl, rfl, rfl, rfl, rfl⟩ rfl rfl rfl rfl rfl (by kernel_rfl) Try.func3 (by kernel_rfl)
    (of_decide_eq_true (by kernel_rfl)) (by unfold Func.isWrapper; first | (rw [if_pos (by decide +kernel)]; kernel_rfl) | (rw [if_neg (by decide +kernel)]; exact ⟨rfl, rfl⟩))
    (fun os started H enc _ => law_lifted (s := Rows.opinionDiffsSpec) (C := Try.checked) (n := 12) Try.own Try.laidOut (by kernel_rfl) Try.func3 (by decide +kernel) rfl (by kernel_rfl) rfl (by kernel_rfl) (fun H ds h => by
      match ds, h with
      | [d1, d2], _ => rfl) OpinionDiffs_fn os started H enc
      (ChangeSpec.witness6 (enc := enc) (C := Try.checked) false ⟨#[], #[.slice none 0 0, .slice none 0 0], []⟩ 12 (by kernel_rfl) (by kernel_rfl) (by kernel_rfl) (by kernel_rfl)))
theorem OpinionSides_fn : ∀ xs, TyArgs [(false, [.sl [.int .i64, .int .i64]]), (false, [.sl [.int .i64, .int .i64]])] xs → FnR Try.prog 5 xs [.c (.B true)] := by
  intro xs h
  obtain ⟨d1, _, rfl, h1, h⟩ := h.cons_inv
  obtain ⟨d2, _, rfl, h2, h⟩ := h.cons_inv
  obtain rfl := h.nil_inv
  obtain ⟨a, rfl⟩ := ents_of h1
  obtain ⟨b, rfl⟩ := ents_of h2
  exact f5 a b
theorem OpinionSides_holds : Rows.OpinionSidesSaid :=
  OpenClaim.holds_of_wide 5 Try.f5 rfl rfl rfl rfl rfl rfl rfl ⟨rfl, rfl, rfl, rfl, rfl⟩ rfl rfl rfl rfl rfl (by kernel_rfl) Try.func5 (by kernel_rfl)
    (of_decide_eq_true (by kernel_rfl)) (by unfold Func.isWrapper; first | (rw [if_pos (by decide +kernel)]; kernel_rfl) | (rw [if_neg (by decide +kernel)]; exact ⟨rfl, rfl⟩))
    (fun os started H enc _ => law_lifted (s := Rows.opinionSidesSpec) (C := Try.checked) (n := 12) Try.own Try.laidOut (by kernel_rfl) Try.func5 (by decide +kernel) rfl (by kernel_rfl) rfl (by kernel_rfl) (fun H ds h => by
      match ds, h with
      | [d1, d2], _ => rfl) OpinionSides_fn os started H enc
      (ChangeSpec.witness6 (enc := enc) (C := Try.checked) false ⟨#[], #[.slice none 0 0, .slice none 0 0], []⟩ 12 (by kernel_rfl) (by kernel_rfl) (by kernel_rfl) (by kernel_rfl)))
end Go.Proofs.Ytklkehlccjofoaa

-- P p_12.txt
open Go Go.AL Go.RowKit
namespace Go.Proofs.Ytklkehlccjofoaa
theorem OpinionMerges_fn : ∀ xs, TyArgs [(false, [.sl [.int .i64, .int .i64]]), (false, [.sl [.int .i64, .int .i64]]), (false, [.sl [.int .i64, .int .i64]])] xs → FnR Try.prog 4 xs [.c (.B true)] := by
  intro xs h
  obtain ⟨d1, _, rfl, h1, h⟩ := h.cons_inv
  obtain ⟨d2, _, rfl, h2, h⟩ := h.cons_inv
  obtain ⟨d3, _, rfl, h3, h⟩ := h.cons_inv
  obtain rfl := h.nil_inv
  obtain ⟨a, rfl⟩ := ents_of h1
  obtain ⟨b, rfl⟩ := ents_of h2
  obtain ⟨c, rfl⟩ := ents_of h3
  exact f4 a b c
theorem OpinionMerges_holds : Rows.OpinionMergesSaid :=
  OpenClaim.holds_of_wide 4 Try.f4 rfl rfl rfl rfl rfl rfl rfl ⟨rfl, rfl, rfl, rfl, rfl⟩ rfl rfl rfl rfl rfl (by kernel_rfl) Try.func4 (by kernel_rfl)
    (of_decide_eq_true (by kernel_rfl)) (by unfold Func.isWrapper; first | (rw [if_pos (by decide +kernel)]; kernel_rfl) | (rw [if_neg (by decide +kernel)]; exact ⟨rfl, rfl⟩))
    (fun os started H enc _ => law_lifted (s := Rows.opinionMergesSpec) (C := Try.checked) (n := 12) Try.own Try.laidOut (by kernel_rfl) Try.func4 (by decide +kernel) rfl (by kernel_rfl) rfl (by kernel_rfl) (fun H ds h => by
      match ds, h with
      | [d1, d2, d3], _ => rfl) OpinionMerges_fn os started H enc
      (ChangeSpec.witness6 (enc := enc) (C := Try.checked) false ⟨#[], #[.slice none 0 0, .slice none 0 0, .slice none 0 0], []⟩ 12 (by kernel_rfl) (by kernel_rfl) (by kernel_rfl) (by kernel_rfl)))
end Go.Proofs.Ytklkehlccjofoaa

