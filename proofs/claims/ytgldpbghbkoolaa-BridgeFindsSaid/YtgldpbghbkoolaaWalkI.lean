/-
  Lemmas for the proof: no statement of its own.
-/
import Derived.Test.YtgldpbghbkoolaaPlainE
import Derived.Test.YtgldpbghbkoolaaWalkE
import Derived.KernelRfl
set_option linter.unusedVariables false
set_option linter.unusedSimpArgs false
-- P p_15.txt
open Go Go.AL Go.RowKit
namespace Go.Proofs.Ytgldpbghbkoolaa
set_option maxRecDepth 20000
/- coinage/linkage.Degree -/
/- coinage/coinagelaw15.joined -/
/- coinage/linkage.end -/
/- coinage/coinageref13.Touches -/
abbrev c47_1 : AC := .reg [⟨(some 2), .box 44 (some 3) (.t 0), none⟩,
  ⟨(some 3), .box 27 (some 2) (.t 1), none⟩,
  ⟨(some 4), .mv (.k (.B false)), none⟩] false
abbrev c47_2 : AC := .reg [⟨(some 5), .fad 0 (.t 3), none⟩,
  ⟨(some 6), .ld none (.t 5), none⟩,
  ⟨(some 7), .bin .eql (.t 6) (.k (.I 0)), none⟩,
  ⟨(some 8), .mv (.t 7), none⟩,
  ⟨(some 9), .fad 1 (.t 2), (some (8, true))⟩,
  ⟨(some 10), .ld none (.t 9), (some (8, true))⟩,
  ⟨(some 11), .fad 1 (.t 3), (some (8, true))⟩,
  ⟨(some 12), .ld none (.t 11), (some (8, true))⟩,
  ⟨(some 13), .bin .eql (.t 10) (.t 12), (some (8, true))⟩,
  ⟨(some 14), .pick (.t 8) (.t 13) (.k (.B false)), none⟩,
  ⟨(some 15), .mv (.t 14), none⟩,
  ⟨(some 16), .fad 0 (.t 3), (some (15, false))⟩,
  ⟨(some 17), .ld none (.t 16), (some (15, false))⟩,
  ⟨(some 18), .bin .eql (.t 17) (.k (.I 1)), (some (15, false))⟩,
  ⟨(some 19), .mv (.t 18), (some (15, false))⟩,
  ⟨(some 20), .fad 2 (.t 2), (some (19, true))⟩,
  ⟨(some 21), .ld none (.t 20), (some (19, true))⟩,
  ⟨(some 22), .fad 1 (.t 3), (some (19, true))⟩,
  ⟨(some 23), .ld none (.t 22), (some (19, true))⟩,
  ⟨(some 24), .bin .eql (.t 21) (.t 23), (some (19, true))⟩,
  ⟨(some 25), .pick (.t 19) (.t 24) (.k (.B false)), (some (15, false))⟩,
  ⟨(some 26), .pick (.t 15) (.k (.B true)) (.t 25), none⟩,
  ⟨(some 4), .mv (.t 26), none⟩] false
abbrev c47_3 : AC := .seq c47_2 .ret
abbrev c47_4 : AC := .seq c47_1 c47_3
abbrev c47 : AC := c47_4
theorem code47 : fnCode Try.prog 47 = some (c47, [4], 27) := by kernel_rfl

theorem n47 (x : Lk) (d : Die) : FnR Try.prog 47 [x.av, d.av] [.c (.B (across x d).isSome)] := by
  have e : (across x d).isSome = ((decide (d.side = 0) && decide (x.obv = d.num)) || (decide (d.side = 1) && decide (x.rev = d.num))) := by
    unfold across
    obtain ⟨s, n⟩ := d
    by_cases h1 : (⟨s, n⟩ : Die) = x.o
    · rw [if_pos h1]
      simp only [Lk.o, Die.mk.injEq] at h1
      obtain ⟨rfl, rfl⟩ := h1
      simp
    · rw [if_neg h1]
      by_cases h2 : (⟨s, n⟩ : Die) = x.r
      · rw [if_pos h2]
        simp only [Lk.r, Die.mk.injEq] at h2
        obtain ⟨rfl, rfl⟩ := h2
        simp
      · rw [if_neg h2]
        simp only [Lk.o, Lk.r, Die.mk.injEq] at h1 h2
        symm
        simp only [Option.isSome_none, Bool.or_eq_false_iff, Bool.and_eq_false_iff, decide_eq_false_iff_not]
        constructor
        · by_cases hs : s = 0
          · exact .inr fun h => h1 ⟨hs, h.symm⟩
          · exact .inl hs
        · by_cases hs : s = 1
          · exact .inr fun h => h2 ⟨hs, h.symm⟩
          · exact .inl hs
  rw [e]
  refine fn_walk code47 (by simp) ?_
  (repeat' (first | refine NextAt.mk (fun hc => ?_) (fun pre n v post hc hkey => ?_) | refine Sni.mk (fun hc => ?_) ?_ | refine Both.mk ?_ ?_ | refine AW_seq ?_ | refine AW_block ?_ | ((first | refine AW_reg ?_ | refine AW_cond ?_ | refine AW_skip ?_ | refine AW_exit ?_ | refine AW_ret ?_ | refine AW_regD (by kernel_rfl) ?_ | refine AW_regX (by kernel_rfl) ?_ | refine CallAtG.t (Eq.refl true) ?_ | refine CallAtG.f (Eq.refl false) ?_); try simp (disch := omega) only [go_sem, seval, reduceCtorEq, ↓reduceIte, beq_dec, Int.toNat_natCast, IntKind.signed, IntKind.bits]) | refine And.intro (fun hc => (?_ : AW _ _ _ _)) (fun hc => (?_ : AW _ _ _ _)) | simp (disch := omega) only [go_sem, seval, reduceCtorEq, ↓reduceIte, beq_dec, Int.toNat_natCast, IntKind.signed, IntKind.bits] | (refine And.intro ?_ ?_; focus (first | (intros; omega) | (intros; simp_all; done))) | refine And.intro (?_ : CallAt _ _ _ _ _ _ _ _) ?_ | refine And.intro (?_ : CallAt _ _ _ _ _ _ _ _ ∧ _) ?_ | refine And.intro (?_ : AW _ _ _ _) ?_ | fail))
/-! ### joined -/
structure Wj where
  (i : Nat) (k : Bool)
end Go.Proofs.Ytgldpbghbkoolaa

