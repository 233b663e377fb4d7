/-
  WearAdvances: for every two specimens the law WearAdvances returns true and changes nothing. No conditions.
-/
import Derived.Test.YtdbkhiobchkjjaaWalkB
import Derived.Test.YtdbkhiobchkjjaaAlD
import Derived.Test.YtdbkhiobchkjjaaRows
set_option linter.unusedVariables false
set_option linter.unusedSimpArgs false
open Go Go.AL Go.RowKit
namespace Go.Proofs.Ytdbkhiobchkjjaa
theorem Try.own : ownKnob Try.prog.godebug = none := by kernel_rfl
theorem Try.laidOut : laidOutB Try.prog = true := by kernel_rfl
def coinSh : List Sh := [.int .i64, .int .i64, .int .i64, .int .i64, .int .i64, .int .i64, .int .i64]
theorem coin_of {ds : List CD} (h : Ty coinSh ds) : ∃ s : Coin, ds = s.cd := by
  unfold coinSh at h
  cases h with | int _ h => cases h with | int _ h => cases h with | int _ h => cases h with | int _ h => cases h with | int _ h => cases h with | int _ h => cases h with | int _ h => 
    cases h
    exact ⟨⟨_, _, _, _, _, _, _⟩, rfl⟩
theorem WearAdvances_fn : ∀ xs, TyArgs [(true, coinSh), (true, coinSh)] xs → FnR Try.prog 3 xs [.c (.B true)] := by
  intro xs h
  cases h with | cons h1 h => cases h with | cons h2 h => 
    cases h
    obtain ⟨s, rfl⟩ := coin_of h1
    obtain ⟨t, rfl⟩ := coin_of h2
    exact f3 s t
theorem WearAdvances_holds : Rows.WearAdvancesSaid :=
  OpenClaim.holds_of_wide 3 Try.f3 rfl rfl rfl rfl rfl rfl rfl ⟨rfl, rfl, rfl, rfl, rfl⟩ rfl rfl rfl rfl rfl (by kernel_rfl) Try.func3 (by kernel_rfl)
    (of_decide_eq_true (by kernel_rfl)) (by unfold Func.isWrapper; first | (rw [if_pos (by decide +kernel)]; kernel_rfl) | (rw [if_neg (by decide +kernel)]; exact ⟨rfl, rfl⟩))
    (fun os started H enc _ => law_lifted (s := Rows.wearAdvancesSpec) (C := Try.checked) (tb := 4) (n := 8) Try.own Try.laidOut (by kernel_rfl) Try.func3 (by decide +kernel) rfl (by kernel_rfl) rfl (by kernel_rfl) (fun H ds h => by
      match ds, h with
      | [d1, d2], _ => rfl) WearAdvances_fn os started H enc
      (ChangeSpec.witness6 (enc := enc) (C := Try.checked) false ⟨#[], #[.agg #[.int .i64 0, .int .i64 0, .int .i64 0, .int .i64 0, .int .i64 0, .int .i64 0, .int .i64 0], .agg #[.int .i64 0, .int .i64 0, .int .i64 0, .int .i64 0, .int .i64 0, .int .i64 0, .int .i64 0]], []⟩ 8 (by kernel_rfl) (by kernel_rfl) (by kernel_rfl) (by kernel_rfl)))
end Go.Proofs.Ytdbkhiobchkjjaa

