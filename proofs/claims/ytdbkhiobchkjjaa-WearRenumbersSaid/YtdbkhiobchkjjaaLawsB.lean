/-
  Clashes, Alike, States and Renumber return what the document says, and renumbering changes neither arcs nor clashes nor what is alike.
-/
import Derived.Test.YtdbkhiobchkjjaaWalkD
import Derived.Test.YtdbkhiobchkjjaaAlD
import Derived.Test.YtdbkhiobchkjjaaRows
set_option linter.unusedVariables false
set_option linter.unusedSimpArgs false
-- P p_21.txt
open Go Go.AL Go.RowKit
namespace Go.Proofs.Ytdbkhiobchkjjaa
theorem Try.own : ownKnob Try.prog.godebug = none := by kernel_rfl
theorem Try.laidOut : laidOutB Try.prog = true := by kernel_rfl
def coinSh : List Sh := [.int .i64, .int .i64, .int .i64, .int .i64, .int .i64, .int .i64, .int .i64]
theorem coin_of {ds : List CD} (h : Ty coinSh ds) : ∃ s : Coin, ds = s.cd := by
  unfold coinSh at h
  obtain ⟨a1, _, rfl, _, h⟩ := h.int_inv
  obtain ⟨a2, _, rfl, _, h⟩ := h.int_inv
  obtain ⟨a3, _, rfl, _, h⟩ := h.int_inv
  obtain ⟨a4, _, rfl, _, h⟩ := h.int_inv
  obtain ⟨a5, _, rfl, _, h⟩ := h.int_inv
  obtain ⟨a6, _, rfl, _, h⟩ := h.int_inv
  obtain ⟨a7, _, rfl, _, h⟩ := h.int_inv
  obtain rfl := h.nil_inv
  exact ⟨⟨_, _, _, _, _, _, _⟩, rfl⟩
theorem coins_of {ds : List CD} (h : Ty [.sl coinSh] ds) : ∃ l : List Coin, ds = [Coins l] := by
  obtain ⟨xs, r, rfl, hx, h⟩ := h.sl_inv
  obtain rfl := h.nil_inv
  obtain ⟨l, rfl⟩ := map_of (f := Coin.cd) (fun x hx' => coin_of (hx x hx'))
  exact ⟨l, rfl⟩
theorem die_of {ds : List CD} (h : Ty [.int .i64, .int .i64] ds) : ∃ of num : Int, ds = [.I of, .I num] := by
  obtain ⟨a1, _, rfl, _, h⟩ := h.int_inv
  obtain ⟨a2, _, rfl, _, h⟩ := h.int_inv
  obtain rfl := h.nil_inv
  exact ⟨_, _, rfl⟩
theorem WearPairs_fn : ∀ xs, TyArgs [(false, [.sl coinSh]), (true, [.int .i64, .int .i64])] xs → FnR Try.prog 7 xs [.c (.B true)] := by
  intro xs h
  obtain ⟨d1, _, rfl, h1, h⟩ := h.cons_inv
  obtain ⟨d2, _, rfl, h2, h⟩ := h.cons_inv
  obtain rfl := h.nil_inv
  obtain ⟨l, rfl⟩ := coins_of h1
  obtain ⟨of, num, rfl⟩ := die_of h2
  exact f7 l of num
theorem WearPairs_holds : Rows.WearPairsSaid :=
  OpenClaim.holds_of_wide 7 Try.f7 rfl rfl rfl rfl rfl rfl rfl ⟨rfl, rfl, rfl, rfl, rfl⟩ rfl rfl rfl rfl rfl (by kernel_rfl) Try.func7 (by kernel_rfl)
    (of_decide_eq_true (by kernel_rfl)) (by unfold Func.isWrapper; first | (rw [if_pos (by decide +kernel)]; kernel_rfl) | (rw [if_neg (by decide +kernel)]; exact ⟨rfl, rfl⟩))
    (fun os started H enc _ => law_lifted (s := Rows.wearPairsSpec) (C := Try.checked) (n := 12) Try.own Try.laidOut (by kernel_rfl) Try.func7 (by decide +kernel) rfl (by kernel_rfl) rfl (by kernel_rfl) (fun H ds h => by
      match ds, h with
      | [d1, d2], _ => rfl) WearPairs_fn os started H enc
      (ChangeSpec.witness6 (enc := enc) (C := Try.checked) false ⟨#[], #[.slice none 0 0, .agg #[.int .i64 0, .int .i64 0]], []⟩ 12 (by kernel_rfl) (by kernel_rfl) (by kernel_rfl) (by kernel_rfl)))
theorem WearRenumbers_fn : ∀ xs, TyArgs [(false, [.sl coinSh])] xs → FnR Try.prog 8 xs [.c (.B true)] := by
  intro xs h
  obtain ⟨d1, _, rfl, h1, h⟩ := h.cons_inv
  obtain rfl := h.nil_inv
  obtain ⟨l, rfl⟩ := coins_of h1
  exact f8 l
theorem WearRenumbers_holds : Rows.WearRenumbersSaid :=
  OpenClaim.holds_of_wide 8 Try.f8 rfl rfl rfl rfl rfl rfl rfl ⟨rfl, rfl, rfl, rfl, rfl⟩ rfl rfl rfl rfl rfl (by kernel_rfl) Try.func8 (by kernel_rfl)
    (of_decide_eq_true (by kernel_rfl)) (by unfold Func.isWrapper; first | (rw [if_pos (by decide +kernel)]; kernel_rfl) | (rw [if_neg (by decide +kernel)]; exact ⟨rfl, rfl⟩))
    (fun os started H enc _ => law_lifted (s := Rows.wearRenumbersSpec) (C := Try.checked) (n := 12) Try.own Try.laidOut (by kernel_rfl) Try.func8 (by decide +kernel) rfl (by kernel_rfl) rfl (by kernel_rfl) (fun H ds h => by
      match ds, h with
      | [d1], _ => rfl) WearRenumbers_fn os started H enc
      (ChangeSpec.witness6 (enc := enc) (C := Try.checked) false ⟨#[], #[.slice none 0 0], []⟩ 12 (by kernel_rfl) (by kernel_rfl) (by kernel_rfl) (by kernel_rfl)))
theorem WearAgain_fn : ∀ xs, TyArgs [(false, [.sl coinSh]), (false, [.int .u8])] xs → FnR Try.prog 9 xs [.c (.B true)] := by
  intro xs h
  obtain ⟨d1, _, rfl, h1, h⟩ := h.cons_inv
  obtain ⟨d2, _, rfl, h2, h⟩ := h.cons_inv
  obtain rfl := h.nil_inv
  obtain ⟨l, rfl⟩ := coins_of h1
  obtain ⟨m, _, rfl, hm, h2⟩ := h2.int_inv
  obtain rfl := h2.nil_inv
  exact f9 l m hm
theorem WearAgain_holds : Rows.WearAgainSaid :=
  OpenClaim.holds_of_wide 9 Try.f9 rfl rfl rfl rfl rfl rfl rfl ⟨rfl, rfl, rfl, rfl, rfl⟩ rfl rfl rfl rfl rfl (by kernel_rfl) Try.func9 (by kernel_rfl)
    (of_decide_eq_true (by kernel_rfl)) (by unfold Func.isWrapper; first | (rw [if_pos (by decide +kernel)]; kernel_rfl) | (rw [if_neg (by decide +kernel)]; exact ⟨rfl, rfl⟩))
    (fun os started H enc _ => law_lifted (s := Rows.wearAgainSpec) (C := Try.checked) (n := 12) Try.own Try.laidOut (by kernel_rfl) Try.func9 (by decide +kernel) rfl (by kernel_rfl) rfl (by kernel_rfl) (fun H ds h => by
      match ds, h with
      | [d1, d2], _ => rfl) WearAgain_fn os started H enc
      (ChangeSpec.witness6 (enc := enc) (C := Try.checked) false ⟨#[], #[.slice none 0 0, .int .u8 0], []⟩ 12 (by kernel_rfl) (by kernel_rfl) (by kernel_rfl) (by kernel_rfl)))
end Go.Proofs.Ytdbkhiobchkjjaa

