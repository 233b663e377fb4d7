/-
  Compose returns what the reference returns; composed changes lead where both lists lead.
-/
import Derived.Test.YtklkehlccjofoaaWalkH
import Derived.Test.YtklkehlccjofoaaAlD
import Derived.Test.YtklkehlccjofoaaRows
set_option linter.unusedVariables false
set_option linter.unusedSimpArgs false
-- P p_12.txt
open Go Go.AL Go.RowKit
namespace Go.Proofs.Ytklkehlccjofoaa
theorem Try.own : ownKnob Try.prog.godebug = none := by kernel_rfl
theorem Try.laidOut : laidOutB Try.prog = true := by kernel_rfl
theorem ent_of {ds : List CD} (h : Ty [.int .i64, .int .i64] ds) : ∃ p : Int × Int, ds = cdE p := by
  obtain ⟨a1, _, rfl, _, h⟩ := h.int_inv
  obtain ⟨a2, _, rfl, _, h⟩ := h.int_inv
  obtain rfl := h.nil_inv
  exact ⟨(a1, a2), rfl⟩
theorem ents_of {ds : List CD} (h : Ty [.sl [.int .i64, .int .i64]] ds) : ∃ l : List (Int × Int), ds = [EL l] := by
  obtain ⟨xs, r, rfl, hx, h⟩ := h.sl_inv
  obtain rfl := h.nil_inv
  obtain ⟨l, rfl⟩ := map_of (f := cdE) (fun x hx' => ent_of (hx x hx'))
  exact ⟨l, rfl⟩
def chgSh : List Sh := [.int .i64, .int .i64, .int .i64, .bool, .bool]
theorem chg_of {ds : List CD} (h : Ty chgSh ds) : ∃ s : Chg, ds = s.cd := by
  unfold chgSh at h
  obtain ⟨a1, _, rfl, _, h⟩ := h.int_inv
  obtain ⟨a2, _, rfl, _, h⟩ := h.int_inv
  obtain ⟨a3, _, rfl, _, h⟩ := h.int_inv
  obtain ⟨a4, r4, e4, h4⟩ := h.bool_inv
  obtain ⟨a5, r5, e5, h5⟩ := h4.bool_inv
  have e6 := h5.nil_inv
  subst e4 e5 e6
  exact ⟨⟨_, _, _, _, _⟩, rfl⟩
theorem chgs_of {ds : List CD} (h : Ty [.sl chgSh] ds) : ∃ l : List Chg, ds = [CL l] := by
  obtain ⟨xs, r, rfl, hx, h⟩ := h.sl_inv
  obtain rfl := h.nil_inv
  obtain ⟨l, rfl⟩ := map_of (f := Chg.cd) (fun x hx' => chg_of (hx x hx'))
  exact ⟨l, rfl⟩
theorem OpinionComposes_fn : ∀ xs, TyArgs [(false, [.sl chgSh]), (false, [.sl chgSh])] xs → FnR Try.prog 9 xs [.c (.B true)] := by
  intro xs h
  obtain ⟨d0, _, rfl, h0, h⟩ := h.cons_inv
  obtain ⟨d1, _, rfl, h1, h⟩ := h.cons_inv
  obtain rfl := h.nil_inv
  obtain ⟨a0, rfl⟩ := chgs_of h0
  obtain ⟨a1, rfl⟩ := chgs_of h1
  exact f9 a0 a1
theorem OpinionComposes_holds : Rows.OpinionComposesSaid :=
  OpenClaim.holds_of_wide 9 Try.f9 rfl rfl rfl rfl rfl rfl rfl ⟨rfl, rfl, rfl, rfl, rfl⟩ rfl rfl rfl rfl rfl (by kernel_rfl) Try.func9 (by kernel_rfl)
    (of_decide_eq_true (by kernel_rfl)) (by unfold Func.isWrapper; first | (rw [if_pos (by decide +kernel)]; kernel_rfl) | (rw [if_neg (by decide +kernel)]; exact ⟨rfl, rfl⟩))
    (fun os started H enc _ => law_lifted (s := Rows.opinionComposesSpec) (C := Try.checked) (n := 12) Try.own Try.laidOut (by kernel_rfl) Try.func9 (by decide +kernel) rfl (by kernel_rfl) rfl (by kernel_rfl) (fun H ds h => by
      match ds, h with
      | [d1, d2], _ => rfl) OpinionComposes_fn os started H enc
      (ChangeSpec.witness6 (enc := enc) (C := Try.checked) false ⟨#[], #[.slice none 0 0, .slice none 0 0], []⟩ 12 (by kernel_rfl) (by kernel_rfl) (by kernel_rfl) (by kernel_rfl)))
theorem OpinionChains_fn : ∀ xs, TyArgs [(false, [.sl [.int .i64, .int .i64]]), (false, [.sl [.int .i64, .int .i64]]), (false, [.sl [.int .i64, .int .i64]])] xs → FnR Try.prog 10 xs [.c (.B true)] := by
  intro xs h
  obtain ⟨d0, _, rfl, h0, h⟩ := h.cons_inv
  obtain ⟨d1, _, rfl, h1, h⟩ := h.cons_inv
  obtain ⟨d2, _, rfl, h2, h⟩ := h.cons_inv
  obtain rfl := h.nil_inv
  obtain ⟨a0, rfl⟩ := ents_of h0
  obtain ⟨a1, rfl⟩ := ents_of h1
  obtain ⟨a2, rfl⟩ := ents_of h2
  exact f10 a0 a1 a2
theorem OpinionChains_holds : Rows.OpinionChainsSaid :=
  OpenClaim.holds_of_wide 10 Try.f10 rfl rfl rfl rfl rfl rfl rfl ⟨rfl, rfl, rfl, rfl, rfl⟩ rfl rfl rfl rfl rfl (by kernel_rfl) Try.func10 (by kernel_rfl)
    (of_decide_eq_true (by kernel_rfl)) (by unfold Func.isWrapper; first | (rw [if_pos (by decide +kernel)]; kernel_rfl) | (rw [if_neg (by decide +kernel)]; exact ⟨rfl, rfl⟩))
    (fun os started H enc _ => law_lifted (s := Rows.opinionChainsSpec) (C := Try.checked) (n := 12) Try.own Try.laidOut (by kernel_rfl) Try.func10 (by decide +kernel) rfl (by kernel_rfl) rfl (by kernel_rfl) (fun H ds h => by
      match ds, h with
      | [d1, d2, d3], _ => rfl) OpinionChains_fn os started H enc
      (ChangeSpec.witness6 (enc := enc) (C := Try.checked) false ⟨#[], #[.slice none 0 0, .slice none 0 0, .slice none 0 0], []⟩ 12 (by kernel_rfl) (by kernel_rfl) (by kernel_rfl) (by kernel_rfl)))
end Go.Proofs.Ytklkehlccjofoaa

