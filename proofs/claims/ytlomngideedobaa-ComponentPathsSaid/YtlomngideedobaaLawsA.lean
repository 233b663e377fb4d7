/-
  Path returns what the reference returns, and the distance is a metric.
-/
import Derived.Test.YtlomngideedobaaWalkF
import Derived.Test.YtlomngideedobaaAlD
import Derived.Test.YtlomngideedobaaRows
set_option linter.unusedVariables false
set_option linter.unusedSimpArgs false
-- P p_14.txt
open Go Go.AL Go.RowKit
namespace Go.Proofs.Ytlomngideedobaa
theorem Try.own : ownKnob Try.prog.godebug = none := by kernel_rfl
theorem Try.laidOut : laidOutB Try.prog = true := by kernel_rfl
theorem die_of {ds : List CD} (h : Ty [.int .i64, .int .i64] ds) : ∃ d : Die, ds = [.I d.side, .I d.num] := by
  obtain ⟨a1, _, rfl, _, h⟩ := h.int_inv
  obtain ⟨a2, _, rfl, _, h⟩ := h.int_inv
  obtain rfl := h.nil_inv
  exact ⟨⟨a1, a2⟩, rfl⟩
theorem tri_of {ds : List CD} (h : Ty [.int .i64, .int .i64, .int .i64, .int .i64, .int .i64, .int .i64] ds) : ∃ a b c : Die, ds = [.I a.side, .I a.num, .I b.side, .I b.num, .I c.side, .I c.num] := by
  obtain ⟨a1, _, rfl, _, h⟩ := h.int_inv
  obtain ⟨a2, _, rfl, _, h⟩ := h.int_inv
  obtain ⟨a3, _, rfl, _, h⟩ := h.int_inv
  obtain ⟨a4, _, rfl, _, h⟩ := h.int_inv
  obtain ⟨a5, _, rfl, _, h⟩ := h.int_inv
  obtain ⟨a6, _, rfl, _, h⟩ := h.int_inv
  obtain rfl := h.nil_inv
  exact ⟨⟨a1, a2⟩, ⟨a3, a4⟩, ⟨a5, a6⟩, rfl⟩
theorem ints_of {xs : List (List CD)} (h : ∀ x ∈ xs, Ty [.int .i64] x) : ∃ l : List Int, xs = l.map fun x => [CD.I x] := by
  refine map_of (f := fun x : Int => [CD.I x]) fun x hx => ?_
  obtain ⟨a, _, rfl, _, h⟩ := (h x hx).int_inv
  obtain rfl := h.nil_inv
  exact ⟨a, rfl⟩
theorem row_of {ds : List CD} {s : List Sh} (h : Ty (.sl [.int .i64] :: s) ds) : ∃ (l : List Int) (r : List CD), ds = Row l :: r ∧ Ty s r := by
  obtain ⟨xs, r, e, hx, h'⟩ := h.sl_inv
  obtain ⟨l, rfl⟩ := ints_of hx
  exact ⟨l, r, e, h'⟩
theorem dbls_of {ds : List CD} {s : List Sh} (h : Ty (.sl [.int .i64, .int .i64, .int .i64] :: s) ds) : ∃ (l : List Lk) (r : List CD), ds = LL l :: r ∧ Ty s r := by
  obtain ⟨xs, r, e, hx, h'⟩ := h.sl_inv
  obtain ⟨l, rfl⟩ := map_of (f := Lk.cd) fun x hx' => by
    have h := hx x hx'
    obtain ⟨a1, _, rfl, _, h⟩ := h.int_inv
    obtain ⟨a2, _, rfl, _, h⟩ := h.int_inv
    obtain ⟨a3, _, rfl, _, h⟩ := h.int_inv
    obtain rfl := h.nil_inv
    exact ⟨⟨a1, a2, a3⟩, rfl⟩
  exact ⟨l, r, e, h'⟩
abbrev grSh : List Sh := [.sl [.int .i64], .sl [.int .i64], .sl [.int .i64, .int .i64, .int .i64]]
theorem gr_of {ds : List CD} (h : Ty grSh ds) : ∃ g : Gr, ds = [Row g.obv, Row g.rev, LL g.links] := by
  obtain ⟨a, _, rfl, h1⟩ := row_of h
  obtain ⟨b, _, rfl, h2⟩ := row_of h1
  obtain ⟨l, _, rfl, h3⟩ := dbls_of h2
  obtain rfl := h3.nil_inv
  exact ⟨⟨a, b, l⟩, rfl⟩
theorem ComponentPaths_fn : ∀ xs, TyArgs [(true, grSh), (true, [.int .i64, .int .i64]), (true, [.int .i64, .int .i64])] xs → FnR Try.prog 4 xs [.c (.B true)] := by
  intro xs h
  obtain ⟨d1, _, rfl, h1, h⟩ := h.cons_inv
  obtain ⟨d2, _, rfl, h2, h⟩ := h.cons_inv
  obtain ⟨d3, _, rfl, h3, h⟩ := h.cons_inv
  obtain rfl := h.nil_inv
  obtain ⟨g, rfl⟩ := gr_of h1
  obtain ⟨a, rfl⟩ := die_of h2
  obtain ⟨b, rfl⟩ := die_of h3
  exact f4 g a b
theorem ComponentPaths_holds : Rows.ComponentPathsSaid :=
  OpenClaim.holds_of_wide 4 Try.f4 rfl rfl rfl rfl rfl rfl rfl ⟨rfl, rfl, rfl, rfl, rfl⟩ rfl rfl rfl rfl rfl (by kernel_rfl) Try.func4 (by kernel_rfl)
    (of_decide_eq_true (by kernel_rfl)) (by unfold Func.isWrapper; first | (rw [if_pos (by decide +kernel)]; kernel_rfl) | (rw [if_neg (by decide +kernel)]; exact ⟨rfl, rfl⟩))
    (fun os started H enc _ => law_lifted (s := Rows.componentPathsSpec) (C := Try.checked) (n := 12) Try.own Try.laidOut (by kernel_rfl) Try.func4 (by decide +kernel) rfl (by kernel_rfl) rfl (by kernel_rfl) (fun H ds h => by
      match ds, h with
      | [d1, d2, d3], _ => rfl) ComponentPaths_fn os started H enc
      (ChangeSpec.witness6 (enc := enc) (C := Try.checked) false ⟨#[], #[.agg #[.slice none 0 0, .slice none 0 0, .slice none 0 0], .agg #[.int .i64 0, .int .i64 0], .agg #[.int .i64 0, .int .i64 0]], []⟩ 12 (by kernel_rfl) (by kernel_rfl) (by kernel_rfl) (by kernel_rfl)))
theorem ComponentMetric_fn : ∀ xs, TyArgs [(true, grSh), (true, [.int .i64, .int .i64, .int .i64, .int .i64, .int .i64, .int .i64])] xs → FnR Try.prog 3 xs [.c (.B true)] := by
  intro xs h
  obtain ⟨d1, _, rfl, h1, h⟩ := h.cons_inv
  obtain ⟨d2, _, rfl, h2, h⟩ := h.cons_inv
  obtain rfl := h.nil_inv
  obtain ⟨g, rfl⟩ := gr_of h1
  obtain ⟨a, b, c, rfl⟩ := tri_of h2
  exact f3 g a b c
theorem ComponentMetric_holds : Rows.ComponentMetricSaid :=
  OpenClaim.holds_of_wide 3 Try.f3 rfl rfl rfl rfl rfl rfl rfl ⟨rfl, rfl, rfl, rfl, rfl⟩ rfl rfl rfl rfl rfl (by kernel_rfl) Try.func3 (by kernel_rfl)
    (of_decide_eq_true (by kernel_rfl)) (by unfold Func.isWrapper; first | (rw [if_pos (by decide +kernel)]; kernel_rfl) | (rw [if_neg (by decide +kernel)]; exact ⟨rfl, rfl⟩))
    (fun os started H enc _ => law_lifted (s := Rows.componentMetricSpec) (C := Try.checked) (n := 12) Try.own Try.laidOut (by kernel_rfl) Try.func3 (by decide +kernel) rfl (by kernel_rfl) rfl (by kernel_rfl) (fun H ds h => by
      match ds, h with
      | [d1, d2], _ => rfl) ComponentMetric_fn os started H enc
      (ChangeSpec.witness6 (enc := enc) (C := Try.checked) false ⟨#[], #[.agg #[.slice none 0 0, .slice none 0 0, .slice none 0 0], .agg #[.int .i64 0, .int .i64 0, .int .i64 0, .int .i64 0, .int .i64 0, .int .i64 0]], []⟩ 12 (by kernel_rfl) (by kernel_rfl) (by kernel_rfl) (by kernel_rfl)))
end Go.Proofs.Ytlomngideedobaa

