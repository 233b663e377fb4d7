/-
  Two opinions that come from one and do not contradict one another are merged by the changes of one and then those of the other; the composed changes lead there, and the inverse undoes them.
-/
import Derived.Test.YthpnplebcmijnaaWalkH
import Derived.Test.YthpnplebcmijnaaAlD
import Derived.Test.YthpnplebcmijnaaRows
set_option linter.unusedVariables false
set_option linter.unusedSimpArgs false
-- P p_w.txt
open Go Go.AL Go.RowKit
namespace Go.Proofs.Ythpnplebcmijnaa
theorem Try.own : ownKnob Try.prog.godebug = none := by kernel_rfl
theorem Try.laidOut : laidOutB Try.prog = true := by kernel_rfl
theorem ent_of {ds : List CD} (h : Ty [.int .i64, .int .i64] ds) : ∃ p : Int × Int, ds = cdE p := by
  obtain ⟨a1, _, rfl, _, h⟩ := h.int_inv
  obtain ⟨a2, _, rfl, _, h⟩ := h.int_inv
  obtain rfl := h.nil_inv
  exact ⟨(a1, a2), rfl⟩
theorem ents_of {ds : List CD} (h : Ty [.sl [.int .i64, .int .i64]] ds) : ∃ l : List (Int × Int), ds = [EL l] := by
  obtain ⟨xs, r, rfl, hx, h⟩ := h.sl_inv
  obtain rfl := h.nil_inv
  obtain ⟨l, rfl⟩ := map_of (f := cdE) (fun x hx' => ent_of (hx x hx'))
  exact ⟨l, rfl⟩
theorem WholeOpinions_fn : ∀ xs, TyArgs [(false, [.sl [.int .i64, .int .i64]]), (false, [.sl [.int .i64, .int .i64]]), (false, [.sl [.int .i64, .int .i64]])] xs → FnR Try.prog 3 xs [.c (.B true)] := by
  intro xs h
  obtain ⟨d0, _, rfl, h0, h⟩ := h.cons_inv
  obtain ⟨d1, _, rfl, h1, h⟩ := h.cons_inv
  obtain ⟨d2, _, rfl, h2, h⟩ := h.cons_inv
  obtain rfl := h.nil_inv
  obtain ⟨a0, rfl⟩ := ents_of h0
  obtain ⟨a1, rfl⟩ := ents_of h1
  obtain ⟨a2, rfl⟩ := ents_of h2
  exact f3w a0 a1 a2
theorem WholeOpinions_holds : Rows.WholeOpinionsSaid :=
  OpenClaim.holds_of_wide 3 Try.f3 rfl rfl rfl rfl rfl rfl rfl ⟨rfl, rfl, rfl, rfl, rfl⟩ rfl rfl rfl rfl rfl (by kernel_rfl) Try.func3 (by kernel_rfl)
    (of_decide_eq_true (by kernel_rfl)) (by unfold Func.isWrapper; first | (rw [if_pos (by decide +kernel)]; kernel_rfl) | (rw [if_neg (by decide +kernel)]; exact ⟨rfl, rfl⟩))
    (fun os started H enc _ => law_lifted (s := Rows.wholeOpinionsSpec) (C := Try.checked) (n := 12) Try.own Try.laidOut (by kernel_rfl) Try.func3 (by decide +kernel) rfl (by kernel_rfl) rfl (by kernel_rfl) (fun H ds h => by
      match ds, h with
      | [d1, d2, d3], _ => rfl) WholeOpinions_fn os started H enc
      (ChangeSpec.witness6 (enc := enc) (C := Try.checked) false ⟨#[], #[.slice none 0 0, .slice none 0 0, .slice none 0 0], []⟩ 12 (by kernel_rfl) (by kernel_rfl) (by kernel_rfl) (by kernel_rfl)))
end Go.Proofs.Ythpnplebcmijnaa

