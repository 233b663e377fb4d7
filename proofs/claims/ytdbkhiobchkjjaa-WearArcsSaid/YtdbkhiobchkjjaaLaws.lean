/-
  The laws WearAdvances, WearOrders, WearArcs and WearClashes: each returns true for every input and changes no argument. No conditions.
-/
import Derived.Test.YtdbkhiobchkjjaaWalkC
import Derived.Test.YtdbkhiobchkjjaaAlD
import Derived.Test.YtdbkhiobchkjjaaRows
set_option linter.unusedVariables false
set_option linter.unusedSimpArgs false
open Go Go.AL Go.RowKit
namespace Go.Proofs.Ytdbkhiobchkjjaa
theorem Try.own : ownKnob Try.prog.godebug = none := by kernel_rfl
theorem Try.laidOut : laidOutB Try.prog = true := by kernel_rfl
def coinSh : List Sh := [.int .i64, .int .i64, .int .i64, .int .i64, .int .i64, .int .i64, .int .i64]
theorem coin_of {ds : List CD} (h : Ty coinSh ds) : ∃ s : Coin, ds = s.cd := by
  unfold coinSh at h
  obtain ⟨a1, _, rfl, _, h⟩ := h.int_inv
  obtain ⟨a2, _, rfl, _, h⟩ := h.int_inv
  obtain ⟨a3, _, rfl, _, h⟩ := h.int_inv
  obtain ⟨a4, _, rfl, _, h⟩ := h.int_inv
  obtain ⟨a5, _, rfl, _, h⟩ := h.int_inv
  obtain ⟨a6, _, rfl, _, h⟩ := h.int_inv
  obtain ⟨a7, _, rfl, _, h⟩ := h.int_inv
  obtain rfl := h.nil_inv
  exact ⟨⟨_, _, _, _, _, _, _⟩, rfl⟩
theorem coins_of {ds : List CD} (h : Ty [.sl coinSh] ds) : ∃ l : List Coin, ds = [Coins l] := by
  obtain ⟨xs, r, rfl, hx, h⟩ := h.sl_inv
  obtain rfl := h.nil_inv
  obtain ⟨l, rfl⟩ := map_of (f := Coin.cd) (fun x hx' => coin_of (hx x hx'))
  exact ⟨l, rfl⟩
theorem WearAdvances_fn : ∀ xs, TyArgs [(true, coinSh), (true, coinSh)] xs → FnR Try.prog 3 xs [.c (.B true)] := by
  intro xs h
  obtain ⟨d1, _, rfl, h1, h⟩ := h.cons_inv
  obtain ⟨d2, _, rfl, h2, h⟩ := h.cons_inv
  obtain rfl := h.nil_inv
  obtain ⟨s, rfl⟩ := coin_of h1
  obtain ⟨t, rfl⟩ := coin_of h2
  exact f3 s t
theorem WearAdvances_holds : Rows.WearAdvancesSaid :=
  OpenClaim.holds_of_wide 3 Try.f3 rfl rfl rfl rfl rfl rfl rfl ⟨rfl, rfl, rfl, rfl, rfl⟩ rfl rfl rfl rfl rfl (by kernel_rfl) Try.func3 (by kernel_rfl)
    (of_decide_eq_true (by kernel_rfl)) (by unfold Func.isWrapper; first | (rw [if_pos (by decide +kernel)]; kernel_rfl) | (rw [if_neg (by decide +kernel)]; exact ⟨rfl, rfl⟩))
    (fun os started H enc _ => law_lifted (s := Rows.wearAdvancesSpec) (C := Try.checked) (n := 12) Try.own Try.laidOut (by kernel_rfl) Try.func3 (by decide +kernel) rfl (by kernel_rfl) rfl (by kernel_rfl) (fun H ds h => by
      match ds, h with
      | [d1, d2], _ => rfl) WearAdvances_fn os started H enc
      (ChangeSpec.witness6 (enc := enc) (C := Try.checked) false ⟨#[], #[.agg #[.int .i64 0, .int .i64 0, .int .i64 0, .int .i64 0, .int .i64 0, .int .i64 0, .int .i64 0], .agg #[.int .i64 0, .int .i64 0, .int .i64 0, .int .i64 0, .int .i64 0, .int .i64 0, .int .i64 0]], []⟩ 12 (by kernel_rfl) (by kernel_rfl) (by kernel_rfl) (by kernel_rfl)))
theorem WearOrders_fn : ∀ xs, TyArgs [(false, [.sl coinSh]), (false, [.int .u8])] xs → FnR Try.prog 4 xs [.c (.B true)] := by
  intro xs h
  obtain ⟨d1, _, rfl, h1, h⟩ := h.cons_inv
  obtain ⟨d2, _, rfl, h2, h⟩ := h.cons_inv
  obtain rfl := h.nil_inv
  obtain ⟨l, rfl⟩ := coins_of h1
  obtain ⟨m, _, rfl, hm, h2⟩ := h2.int_inv
  obtain rfl := h2.nil_inv
  exact f4 l m hm
theorem WearOrders_holds : Rows.WearOrdersSaid :=
  OpenClaim.holds_of_wide 4 Try.f4 rfl rfl rfl rfl rfl rfl rfl ⟨rfl, rfl, rfl, rfl, rfl⟩ rfl rfl rfl rfl rfl (by kernel_rfl) Try.func4 (by kernel_rfl)
    (of_decide_eq_true (by kernel_rfl)) (by unfold Func.isWrapper; first | (rw [if_pos (by decide +kernel)]; kernel_rfl) | (rw [if_neg (by decide +kernel)]; exact ⟨rfl, rfl⟩))
    (fun os started H enc _ => law_lifted (s := Rows.wearOrdersSpec) (C := Try.checked) (n := 12) Try.own Try.laidOut (by kernel_rfl) Try.func4 (by decide +kernel) rfl (by kernel_rfl) rfl (by kernel_rfl) (fun H ds h => by
      match ds, h with
      | [d1, d2], _ => rfl) WearOrders_fn os started H enc
      (ChangeSpec.witness6 (enc := enc) (C := Try.checked) false ⟨#[], #[.slice none 0 0, .int .u8 0], []⟩ 12 (by kernel_rfl) (by kernel_rfl) (by kernel_rfl) (by kernel_rfl)))
theorem WearArcs_fn : ∀ xs, TyArgs [(false, [.sl coinSh]), (false, [.int .i64])] xs → FnR Try.prog 5 xs [.c (.B true)] := by
  intro xs h
  obtain ⟨d1, _, rfl, h1, h⟩ := h.cons_inv
  obtain ⟨d2, _, rfl, h2, h⟩ := h.cons_inv
  obtain rfl := h.nil_inv
  obtain ⟨l, rfl⟩ := coins_of h1
  obtain ⟨m, _, rfl, hm, h2⟩ := h2.int_inv
  obtain rfl := h2.nil_inv
  exact f5 l m
theorem WearArcs_holds : Rows.WearArcsSaid :=
  OpenClaim.holds_of_wide 5 Try.f5 rfl rfl rfl rfl rfl rfl rfl ⟨rfl, rfl, rfl, rfl, rfl⟩ rfl rfl rfl rfl rfl (by kernel_rfl) Try.func5 (by kernel_rfl)
    (of_decide_eq_true (by kernel_rfl)) (by unfold Func.isWrapper; first | (rw [if_pos (by decide +kernel)]; kernel_rfl) | (rw [if_neg (by decide +kernel)]; exact ⟨rfl, rfl⟩))
    (fun os started H enc _ => law_lifted (s := Rows.wearArcsSpec) (C := Try.checked) (n := 12) Try.own Try.laidOut (by kernel_rfl) Try.func5 (by decide +kernel) rfl (by kernel_rfl) rfl (by kernel_rfl) (fun H ds h => by
      match ds, h with
      | [d1, d2], _ => rfl) WearArcs_fn os started H enc
      (ChangeSpec.witness6 (enc := enc) (C := Try.checked) false ⟨#[], #[.slice none 0 0, .int .i64 0], []⟩ 12 (by kernel_rfl) (by kernel_rfl) (by kernel_rfl) (by kernel_rfl)))
theorem WearClashes_fn : ∀ xs, TyArgs [(false, [.sl coinSh])] xs → FnR Try.prog 6 xs [.c (.B true)] := by
  intro xs h
  obtain ⟨d1, _, rfl, h1, h⟩ := h.cons_inv
  obtain rfl := h.nil_inv
  obtain ⟨l, rfl⟩ := coins_of h1
  exact f6 l
theorem WearClashes_holds : Rows.WearClashesSaid :=
  OpenClaim.holds_of_wide 6 Try.f6 rfl rfl rfl rfl rfl rfl rfl ⟨rfl, rfl, rfl, rfl, rfl⟩ rfl rfl rfl rfl rfl (by kernel_rfl) Try.func6 (by kernel_rfl)
    (of_decide_eq_true (by kernel_rfl)) (by unfold Func.isWrapper; first | (rw [if_pos (by decide +kernel)]; kernel_rfl) | (rw [if_neg (by decide +kernel)]; exact ⟨rfl, rfl⟩))
    (fun os started H enc _ => law_lifted (s := Rows.wearClashesSpec) (C := Try.checked) (n := 12) Try.own Try.laidOut (by kernel_rfl) Try.func6 (by decide +kernel) rfl (by kernel_rfl) rfl (by kernel_rfl) (fun H ds h => by
      match ds, h with
      | [d1], _ => rfl) WearClashes_fn os started H enc
      (ChangeSpec.witness6 (enc := enc) (C := Try.checked) false ⟨#[], #[.slice none 0 0], []⟩ 12 (by kernel_rfl) (by kernel_rfl) (by kernel_rfl) (by kernel_rfl)))
end Go.Proofs.Ytdbkhiobchkjjaa

