/-
  Bound is at most the number of gaps of Least, one group of all rows reaches it, and dividing a group does not make the sum greater.
-/
import Derived.Test.YtciglfmfemidnaaWalkG
import Derived.Test.YtciglfmfemidnaaAlD
import Derived.Test.YtciglfmfemidnaaRows
set_option linter.unusedVariables false
set_option linter.unusedSimpArgs false
-- P p_30s.txt
open Go Go.AL Go.RowKit
namespace Go.Proofs.Ytciglfmfemidnaa
theorem Try.own : ownKnob Try.prog.godebug = none := by kernel_rfl
theorem Try.laidOut : laidOutB Try.prog = true := by kernel_rfl
theorem ints_of {xs : List (List CD)} (h : ∀ x ∈ xs, Ty [.int .i64] x) : ∃ l : List Int, xs = l.map fun x => [CD.I x] := by
  refine map_of (f := fun x : Int => [CD.I x]) fun x hx => ?_
  obtain ⟨a, _, rfl, _, h⟩ := (h x hx).int_inv
  obtain rfl := h.nil_inv
  exact ⟨a, rfl⟩
theorem row_of {ds : List CD} {s : List Sh} (h : Ty (.sl [.int .i64] :: s) ds) : ∃ (l : List Int) (r : List CD), ds = Row l :: r ∧ Ty s r := by
  obtain ⟨xs, r, e, hx, h'⟩ := h.sl_inv
  obtain ⟨l, rfl⟩ := ints_of hx
  exact ⟨l, r, e, h'⟩
theorem tab_of {ds : List CD} {s : List Sh} (h : Ty (.sl [.sl [.int .i64]] :: s) ds) : ∃ (t : List (List Int)) (r : List CD), ds = Tab t :: r ∧ Ty s r := by
  obtain ⟨xs, r, e, hx, h'⟩ := h.sl_inv
  obtain ⟨l, rfl⟩ := map_of (f := fun r : List Int => [Row r]) fun x hx' => by
    obtain ⟨l, r, e1, h1⟩ := row_of (hx x hx')
    obtain rfl := h1.nil_inv
    exact ⟨l, e1⟩
  exact ⟨l, r, e, h'⟩
theorem bytes_of {ds : List CD} {s : List Sh} (h : Ty (.sl [.int .u8] :: s) ds) : ∃ (l : List Int) (r : List CD), (∀ b ∈ l, 0 ≤ b ∧ b ≤ 255) ∧ ds = Byt l :: r ∧ Ty s r := by
  obtain ⟨xs, r, e, hx, h'⟩ := h.sl_inv
  have : ∃ l : List Int, (∀ b ∈ l, 0 ≤ b ∧ b ≤ 255) ∧ xs = l.map fun b => [CD.sc (.int .u8 b)] := by
    clear e
    induction xs with
    | nil => exact ⟨[], by simp, rfl⟩
    | cons x xs ih =>
      obtain ⟨l, h1, h2⟩ := ih fun y hy => hx y (List.mem_cons_of_mem _ hy)
      obtain ⟨a, _, rfl, hk, h⟩ := (hx x (List.mem_cons_self ..)).int_inv
      obtain rfl := h.nil_inv
      refine ⟨a :: l, ?_, by simp [h2]⟩
      intro b hb
      rcases List.mem_cons.1 hb with rfl | hb
      · unfold inK at hk; exact hk
      · exact h1 b hb
  obtain ⟨l, h1, rfl⟩ := this
  exact ⟨l, r, h1, e, h'⟩
theorem SeriationLower_fn : ∀ xs, TyArgs [(false, [.int .i64]), (false, [.sl [.sl [.int .i64]]]), (false, [.sl [.int .u8]])] xs → FnR Try.prog 3 xs [.c (.B true)] := by
  intro xs h
  obtain ⟨d0, _, rfl, h0, h⟩ := h.cons_inv
  obtain ⟨d1, _, rfl, h1, h⟩ := h.cons_inv
  obtain ⟨d2, _, rfl, h2, h⟩ := h.cons_inv
  obtain rfl := h.nil_inv
  obtain ⟨x0, _, rfl, _, g0⟩ := h0.int_inv
  obtain rfl := g0.nil_inv
  obtain ⟨x1, _, rfl, g1⟩ := tab_of h1
  obtain rfl := g1.nil_inv
  obtain ⟨x2, _, hb, rfl, g2⟩ := bytes_of h2
  obtain rfl := g2.nil_inv
  exact n3 x0 x1 x2 hb
theorem SeriationLower_holds : Rows.SeriationLowerSaid :=
  OpenClaim.holds_of_wide 3 Try.f3 rfl rfl rfl rfl rfl rfl rfl ⟨rfl, rfl, rfl, rfl, rfl⟩ rfl rfl rfl rfl rfl (by kernel_rfl) Try.func3 (by kernel_rfl)
    (of_decide_eq_true (by kernel_rfl)) (by unfold Func.isWrapper; first | (rw [if_pos (by decide +kernel)]; kernel_rfl) | (rw [if_neg (by decide +kernel)]; exact ⟨rfl, rfl⟩))
    (fun os started H enc _ => law_lifted (s := Rows.seriationLowerSpec) (C := Try.checked) (n := 12) Try.own Try.laidOut (by kernel_rfl) Try.func3 (by decide +kernel) rfl (by kernel_rfl) rfl (by kernel_rfl) (fun H ds h => by
      match ds, h with
      | [d1, d2, d3], _ => rfl) SeriationLower_fn os started H enc
      (ChangeSpec.witness6 (enc := enc) (C := Try.checked) false ⟨#[], #[.int .i64 0, .slice none 0 0, .slice none 0 0], []⟩ 12 (by kernel_rfl) (by kernel_rfl) (by kernel_rfl) (by kernel_rfl)))
end Go.Proofs.Ytciglfmfemidnaa

