/-
  The numbers of the components, the chains and the loops are those of the reference.
-/
import Derived.Test.YtlomngideedobaaAlD
import Derived.Test.YtlomngideedobaaWalkA
import Derived.Test.YtlomngideedobaaRows
import Derived.Test.YtlomngideedobaaWalkI
set_option linter.unusedVariables false
set_option linter.unusedSimpArgs false
-- P p_14.txt
open Go Go.AL Go.RowKit
namespace Go.Proofs.Ytlomngideedobaa
theorem Try.own : ownKnob Try.prog.godebug = none := by kernel_rfl
theorem Try.laidOut : laidOutB Try.prog = true := by kernel_rfl
theorem ints_of {xs : List (List CD)} (h : ∀ x ∈ xs, Ty [.int .i64] x) : ∃ l : List Int, xs = l.map fun x => [CD.I x] := by
  refine map_of (f := fun x : Int => [CD.I x]) fun x hx => ?_
  obtain ⟨a, _, rfl, _, h⟩ := (h x hx).int_inv
  obtain rfl := h.nil_inv
  exact ⟨a, rfl⟩
theorem row_of {ds : List CD} {s : List Sh} (h : Ty (.sl [.int .i64] :: s) ds) : ∃ (l : List Int) (r : List CD), ds = Row l :: r ∧ Ty s r := by
  obtain ⟨xs, r, e, hx, h'⟩ := h.sl_inv
  obtain ⟨l, rfl⟩ := ints_of hx
  exact ⟨l, r, e, h'⟩
theorem dbls_of {ds : List CD} {s : List Sh} (h : Ty (.sl [.int .i64, .int .i64, .int .i64] :: s) ds) : ∃ (l : List Lk) (r : List CD), ds = LL l :: r ∧ Ty s r := by
  obtain ⟨xs, r, e, hx, h'⟩ := h.sl_inv
  obtain ⟨l, rfl⟩ := map_of (f := Lk.cd) fun x hx' => by
    have h := hx x hx'
    obtain ⟨a1, _, rfl, _, h⟩ := h.int_inv
    obtain ⟨a2, _, rfl, _, h⟩ := h.int_inv
    obtain ⟨a3, _, rfl, _, h⟩ := h.int_inv
    obtain rfl := h.nil_inv
    exact ⟨⟨a1, a2, a3⟩, rfl⟩
  exact ⟨l, r, e, h'⟩
abbrev grSh : List Sh := [.sl [.int .i64], .sl [.int .i64], .sl [.int .i64, .int .i64, .int .i64]]
theorem gr_of {ds : List CD} (h : Ty grSh ds) : ∃ g : Gr, ds = [Row g.obv, Row g.rev, LL g.links] := by
  obtain ⟨a, _, rfl, h1⟩ := row_of h
  obtain ⟨b, _, rfl, h2⟩ := row_of h1
  obtain ⟨l, _, rfl, h3⟩ := dbls_of h2
  obtain rfl := h3.nil_inv
  exact ⟨⟨a, b, l⟩, rfl⟩
end Go.Proofs.Ytlomngideedobaa

-- P p_14.txt
open Go Go.AL Go.RowKit
namespace Go.Proofs.Ytlomngideedobaa
theorem ComponentParts_fn : ∀ xs, TyArgs [(true, grSh)] xs → FnR Try.prog 5 xs [.c (.B true)] := by
  intro xs h
  obtain ⟨d1, _, rfl, h1, h⟩ := h.cons_inv
  obtain rfl := h.nil_inv
  obtain ⟨g, rfl⟩ := gr_of h1
  exact f5 g
theorem ComponentParts_holds : Rows.ComponentPartsSaid :=
  OpenClaim.holds_of_wide 5 Try.f5 rfl rfl rfl rfl rfl rfl rfl ⟨rfl, rfl, rfl, rfl, rfl⟩ rfl rfl rfl rfl rfl (by kernel_rfl) Try.func5 (by kernel_rfl)
    (of_decide_eq_true (by kernel_rfl)) (by unfold Func.isWrapper; first | (rw [if_pos (by decide +kernel)]; kernel_rfl) | (rw [if_neg (by decide +kernel)]; exact ⟨rfl, rfl⟩))
    (fun os started H enc _ => law_lifted (s := Rows.componentPartsSpec) (C := Try.checked) (n := 12) Try.own Try.laidOut (by kernel_rfl) Try.func5 (by decide +kernel) rfl (by kernel_rfl) rfl (by kernel_rfl) (fun H ds h => by
      match ds, h with
      | [d1], _ => rfl) ComponentParts_fn os started H enc
      (ChangeSpec.witness6 (enc := enc) (C := Try.checked) false ⟨#[], #[.agg #[.slice none 0 0, .slice none 0 0, .slice none 0 0]], []⟩ 12 (by kernel_rfl) (by kernel_rfl) (by kernel_rfl) (by kernel_rfl)))
end Go.Proofs.Ytlomngideedobaa

