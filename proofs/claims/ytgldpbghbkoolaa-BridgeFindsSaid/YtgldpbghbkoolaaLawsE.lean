/-
  Bridges, Hinges and Blocks are those of the reference.
-/
import Derived.Test.YtgldpbghbkoolaaWalkQ
set_option linter.unusedVariables false
set_option linter.unusedSimpArgs false
-- P p_15.txt
open Go Go.AL Go.RowKit
namespace Go.Proofs.Ytgldpbghbkoolaa
set_option maxRecDepth 20000
/- coinage/coinagebase.Lists -/
abbrev c30_1 : AC := .reg [⟨(some 4), .mv (.k (.B false)), none⟩] false
abbrev c30_2 : AC := .reg [⟨(some 6), .mv (.t 0), none⟩,
  ⟨(some 7), .len (.t 6), none⟩,
  ⟨(some 8), .mv (.t 1), none⟩,
  ⟨(some 9), .len (.t 8), none⟩,
  ⟨(some 10), .bin .neq (.t 7) (.t 9), none⟩] false
abbrev c30_3 : AC := .reg [⟨(some 4), .mv (.k (.B false)), none⟩] false
abbrev c30_4 : AC := .seq c30_3 .ret
abbrev c30_5 : AC := .cond (.t 10) c30_4 .skip
abbrev c30_6 : AC := .seq c30_2 c30_5
abbrev c30_7 : AC := .reg [⟨(some 5), .mv (.k (.I 0)), none⟩] false
abbrev c30_8 : AC := .reg [⟨(some 11), .mv (.t 5), none⟩,
  ⟨(some 12), .mv (.t 0), none⟩,
  ⟨(some 13), .len (.t 12), none⟩,
  ⟨(some 14), .bin .lss (.t 11) (.t 13), none⟩] false
abbrev c30_9 : AC := .cond (.t 14) .skip (.exit 0)
abbrev c30_10 : AC := .seq c30_8 c30_9
abbrev c30_11 : AC := .regD [(⟨(some 17), .mv (.t 0), none⟩, [0]),
  (⟨(some 18), .mv (.t 5), none⟩, [5]),
  (⟨(some 19), .iad 1 (.t 17) (.t 18), none⟩, [17, 18]),
  (⟨(some 20), .ld none (.t 19), none⟩, [19]),
  (⟨(some 21), .mv (.t 1), none⟩, [1]),
  (⟨(some 22), .mv (.t 5), none⟩, [5]),
  (⟨(some 23), .iad 1 (.t 21) (.t 22), none⟩, [21, 22]),
  (⟨(some 24), .ld none (.t 23), none⟩, [23]),
  (⟨(some 25), .call 16 [(.t 20), (.t 24)], none⟩, [20, 24]),
  (⟨(some 26), .not (.t 25), none⟩, [25])]
abbrev c30_12 : AC := .reg [⟨(some 4), .mv (.k (.B false)), none⟩] false
abbrev c30_13 : AC := .seq c30_12 .ret
abbrev c30_14 : AC := .cond (.t 26) c30_13 .skip
abbrev c30_15 : AC := .seq c30_11 c30_14
abbrev c30_16 : AC := .block 1 c30_15
abbrev c30_17 : AC := .reg [⟨(some 15), .mv (.t 5), none⟩,
  ⟨(some 16), .bin .add (.t 15) (.k (.I 1)), none⟩,
  ⟨(some 5), .mv (.t 16), none⟩] false
abbrev c30_18 : AC := .seq c30_16 c30_17
abbrev c30_19 : AC := .seq c30_10 c30_18
abbrev c30_20 : AC := .loop c30_19
abbrev c30_21 : AC := .block 0 c30_20
abbrev c30_22 : AC := .seq c30_7 c30_21
abbrev c30_23 : AC := .reg [⟨(some 4), .mv (.k (.B true)), none⟩] false
abbrev c30_24 : AC := .seq c30_23 .ret
abbrev c30_25 : AC := .seq c30_22 c30_24
abbrev c30_26 : AC := .seq c30_6 c30_25
abbrev c30_27 : AC := .seq c30_1 c30_26
abbrev c30 : AC := c30_27
theorem code30 : fnCode Try.prog 30 = some (c30, [4], 27) := by kernel_rfl
/- coinage/coinagelaw15.BridgeFinds -/
abbrev c7_1 : AC := .reg [⟨(some 1), .box 25 (some 3) (.t 0), none⟩,
  ⟨(some 2), .mv (.k (.B false)), none⟩] false
abbrev c7_2 : AC := .reg [⟨(some 15), .call 9 [], none⟩,
  ⟨(some 16), .not (.t 15), none⟩,
  ⟨(some 17), .mv (.t 16), none⟩,
  ⟨(some 18), .ld (some 3) (.t 1), (some (17, false))⟩,
  ⟨(some 19), .call 10 [(.t 18)], (some (17, false))⟩,
  ⟨(some 20), .not (.t 19), (some (17, false))⟩,
  ⟨(some 21), .pick (.t 17) (.k (.B true)) (.t 20), none⟩] false
abbrev c7_3 : AC := .reg [⟨(some 22), .call 9 [], none⟩,
  ⟨(some 2), .mv (.t 22), none⟩] false
abbrev c7_4 : AC := .seq c7_3 .ret
abbrev c7_5 : AC := .cond (.t 21) c7_4 .skip
abbrev c7_6 : AC := .seq c7_2 c7_5
abbrev c7_7 : AC := .reg [⟨(some 24), .ld (some 3) (.t 1), none⟩,
  ⟨(some 25), .call 18 [(.t 24)], none⟩,
  ⟨(some 23), .mv (.t 25), none⟩,
  ⟨(some 26), .ext (.t 23) 0, none⟩,
  ⟨(some 27), .ext (.t 23) 1, none⟩,
  ⟨(some 3), .mv (.t 26), none⟩,
  ⟨(some 4), .mv (.t 27), none⟩] false
abbrev c7_8 : AC := .reg [⟨(some 29), .ld (some 3) (.t 1), none⟩,
  ⟨(some 30), .call 25 [(.t 29)], none⟩,
  ⟨(some 28), .mv (.t 30), none⟩,
  ⟨(some 31), .ext (.t 28) 0, none⟩,
  ⟨(some 32), .ext (.t 28) 1, none⟩,
  ⟨(some 5), .mv (.t 31), none⟩,
  ⟨(some 6), .mv (.t 32), none⟩] false
abbrev c7_9 : AC := .reg [⟨(some 34), .ld (some 3) (.t 1), none⟩,
  ⟨(some 35), .call 19 [(.t 34)], none⟩,
  ⟨(some 33), .mv (.t 35), none⟩,
  ⟨(some 36), .ext (.t 33) 0, none⟩,
  ⟨(some 37), .ext (.t 33) 1, none⟩,
  ⟨(some 7), .mv (.t 36), none⟩,
  ⟨(some 8), .mv (.t 37), none⟩] false
abbrev c7_10 : AC := .reg [⟨(some 39), .ld (some 3) (.t 1), none⟩,
  ⟨(some 40), .call 26 [(.t 39)], none⟩,
  ⟨(some 38), .mv (.t 40), none⟩,
  ⟨(some 41), .ext (.t 38) 0, none⟩,
  ⟨(some 42), .ext (.t 38) 1, none⟩,
  ⟨(some 9), .mv (.t 41), none⟩,
  ⟨(some 10), .mv (.t 42), none⟩] false
abbrev c7_11 : AC := .reg [⟨(some 44), .ld (some 3) (.t 1), none⟩,
  ⟨(some 45), .call 27 [(.t 44)], none⟩,
  ⟨(some 43), .mv (.t 45), none⟩,
  ⟨(some 46), .ext (.t 43) 0, none⟩,
  ⟨(some 47), .ext (.t 43) 1, none⟩,
  ⟨(some 11), .mv (.t 46), none⟩,
  ⟨(some 12), .mv (.t 47), none⟩] false
abbrev c7_12 : AC := .reg [⟨(some 49), .ld (some 3) (.t 1), none⟩,
  ⟨(some 50), .call 28 [(.t 49)], none⟩,
  ⟨(some 48), .mv (.t 50), none⟩,
  ⟨(some 51), .ext (.t 48) 0, none⟩,
  ⟨(some 52), .ext (.t 48) 1, none⟩,
  ⟨(some 13), .mv (.t 51), none⟩,
  ⟨(some 14), .mv (.t 52), none⟩] false
abbrev c7_13 : AC := .reg [⟨(some 53), .mv (.t 4), none⟩,
  ⟨(some 54), .mv (.t 10), none⟩,
  ⟨(some 55), .bin .eql (.t 53) (.t 54), none⟩,
  ⟨(some 56), .mv (.t 55), none⟩,
  ⟨(some 57), .mv (.t 6), (some (56, true))⟩,
  ⟨(some 58), .mv (.t 12), (some (56, true))⟩,
  ⟨(some 59), .bin .eql (.t 57) (.t 58), (some (56, true))⟩,
  ⟨(some 60), .pick (.t 56) (.t 59) (.k (.B false)), none⟩,
  ⟨(some 61), .mv (.t 60), none⟩,
  ⟨(some 62), .mv (.t 8), (some (61, true))⟩,
  ⟨(some 63), .mv (.t 14), (some (61, true))⟩,
  ⟨(some 64), .bin .eql (.t 62) (.t 63), (some (61, true))⟩,
  ⟨(some 65), .pick (.t 61) (.t 64) (.k (.B false)), none⟩,
  ⟨(some 66), .mv (.t 65), none⟩,
  ⟨(some 67), .mv (.t 3), (some (66, true))⟩,
  ⟨(some 68), .mv (.t 9), (some (66, true))⟩,
  ⟨(some 69), .call 16 [(.t 67), (.t 68)], (some (66, true))⟩,
  ⟨(some 70), .pick (.t 66) (.t 69) (.k (.B false)), none⟩,
  ⟨(some 71), .mv (.t 70), none⟩,
  ⟨(some 72), .mv (.t 5), (some (71, true))⟩,
  ⟨(some 73), .mv (.t 11), (some (71, true))⟩,
  ⟨(some 74), .call 29 [(.t 72), (.t 73)], (some (71, true))⟩,
  ⟨(some 75), .pick (.t 71) (.t 74) (.k (.B false)), none⟩,
  ⟨(some 76), .mv (.t 75), none⟩,
  ⟨(some 77), .mv (.t 7), (some (76, true))⟩,
  ⟨(some 78), .mv (.t 13), (some (76, true))⟩,
  ⟨(some 79), .call 30 [(.t 77), (.t 78)], (some (76, true))⟩,
  ⟨(some 80), .pick (.t 76) (.t 79) (.k (.B false)), none⟩,
  ⟨(some 2), .mv (.t 80), none⟩] false
abbrev c7_14 : AC := .seq c7_13 .ret
abbrev c7_15 : AC := .seq c7_12 c7_14
abbrev c7_16 : AC := .seq c7_11 c7_15
abbrev c7_17 : AC := .seq c7_10 c7_16
abbrev c7_18 : AC := .seq c7_9 c7_17
abbrev c7_19 : AC := .seq c7_8 c7_18
abbrev c7_20 : AC := .seq c7_7 c7_19
abbrev c7_21 : AC := .seq c7_6 c7_20
abbrev c7_22 : AC := .seq c7_1 c7_21
abbrev c7 : AC := c7_22
theorem code7 : fnCode Try.prog 7 = some (c7, [2], 81) := by kernel_rfl

theorem n29 (a b : List Die) : FnR Try.prog 29 [.c (DL a), .c (DL b)] [.c (.B (decide (a = b)))] := by
  refine FnR_len (pre := []) (fnCode_callB code29) fun hlen => ?_
  simp only [List.length_map, maxLen] at hlen
  refine fn_walk code29 (by simp) ?_
  (repeat' (first | refine NextAt.mk (fun hc => ?_) (fun pre n v post hc hkey => ?_) | refine Sni.mk (fun hc => ?_) ?_ | refine Both.mk ?_ ?_ | refine AW_seq ?_ | refine AW_block ?_ | ((first | refine AW_reg ?_ | refine AW_cond ?_ | refine AW_skip ?_ | refine AW_exit ?_ | refine AW_ret ?_ | refine AW_regD (by kernel_rfl) ?_ | refine AW_regX (by kernel_rfl) ?_ | refine CallAtG.t (Eq.refl true) ?_ | refine CallAtG.f (Eq.refl false) ?_); try simp (disch := omega) only [go_sem, seval, reduceCtorEq, ↓reduceIte, beq_dec, Int.toNat_natCast, IntKind.signed, IntKind.bits]) | refine And.intro (fun hc => (?_ : AW _ _ _ _)) (fun hc => (?_ : AW _ _ _ _)) | simp (disch := omega) only [go_sem, seval, reduceCtorEq, ↓reduceIte, beq_dec, Int.toNat_natCast, IntKind.signed, IntKind.bits] | (refine And.intro ?_ ?_; focus (first | (intros; omega) | (intros; simp_all; done))) | refine And.intro (?_ : CallAt _ _ _ _ _ _ _ _) ?_ | refine And.intro (?_ : CallAt _ _ _ _ _ _ _ _ ∧ _) ?_ | refine And.intro (?_ : AW _ _ _ _) ?_ | fail))
  · simp; intro h; subst h; exact hc rfl
  · have hl : a.length = b.length := by omega
    refine AW_loopK [0, 1] [4, 5, 11, 12, 13, 14, 15, 16, 17, 18, 19, 20, 21, 22, 23, 24, 25] (fun i : Nat => i ≤ a.length ∧ ∀ j, j < i → nth a j = nth b j) (fun i => [(5, .I i)]) (fun _ => []) (fun i => a.length - i) 0 ⟨by omega, by omega⟩ ?_ ?_
    · simp (disch := omega) only [go_sem, seval, reduceCtorEq, ↓reduceIte, beq_dec, Int.toNat_natCast, IntKind.signed, IntKind.bits, Int.natCast_zero]
    · rintro i ⟨hi, hv⟩
      (repeat' (first | refine NextAt.mk (fun hc => ?_) (fun pre n v post hc hkey => ?_) | refine Sni.mk (fun hc => ?_) ?_ | refine Both.mk ?_ ?_ | refine AW_seq ?_ | refine AW_block ?_ | ((first | refine AW_reg ?_ | refine AW_cond ?_ | refine AW_skip ?_ | refine AW_exit ?_ | refine AW_ret ?_ | refine AW_regD (by kernel_rfl) ?_ | refine AW_regX (by kernel_rfl) ?_ | refine CallAtG.t (Eq.refl true) ?_ | refine CallAtG.f (Eq.refl false) ?_); try simp (disch := omega) only [go_sem, seval, reduceCtorEq, ↓reduceIte, beq_dec, Int.toNat_natCast, IntKind.signed, IntKind.bits, getD_map Die.cd, Die.cd]) | refine And.intro (fun hc => (?_ : AW _ _ _ _)) (fun hc => (?_ : AW _ _ _ _)) | simp (disch := omega) only [go_sem, seval, reduceCtorEq, ↓reduceIte, beq_dec, Int.toNat_natCast, IntKind.signed, IntKind.bits, getD_map Die.cd, Die.cd] | (refine And.intro ?_ ?_; focus (first | (intros; omega) | (intros; simp_all; done))) | refine And.intro (?_ : CallAt _ _ _ _ _ _ _ _) ?_ | refine And.intro (?_ : CallAt _ _ _ _ _ _ _ _ ∧ _) ?_ | refine And.intro (?_ : AW _ _ _ _) ?_ | fail))
      · symm; simp only [decide_eq_false_iff_not]; intro h; subst h; simp at hc
      · refine .mk (i + 1) ⟨by omega, step_lt hv (die_ext.2 (by simpa using hc))⟩ (by omega) ?_
        simp (disch := omega) only [go_sem, seval, reduceCtorEq, ↓reduceIte, beq_dec, Int.toNat_natCast, IntKind.signed, IntKind.bits, Int.natCast_add, Int.natCast_one]
      · symm; simp only [decide_eq_true_eq]; exact eq_of_nth hl fun j hj => hv j (by omega)
theorem n30 (a b : List (List Int)) : FnR Try.prog 30 [.c (CLi a), .c (CLi b)] [.c (.B (decide (a = b)))] := by
  refine FnR_len (pre := []) (fnCode_callB code30) fun hlen => ?_
  simp only [List.length_map, maxLen] at hlen
  refine fn_walk code30 (by simp) ?_
  (repeat' (first | refine NextAt.mk (fun hc => ?_) (fun pre n v post hc hkey => ?_) | refine Sni.mk (fun hc => ?_) ?_ | refine Both.mk ?_ ?_ | refine AW_seq ?_ | refine AW_block ?_ | ((first | refine AW_reg ?_ | refine AW_cond ?_ | refine AW_skip ?_ | refine AW_exit ?_ | refine AW_ret ?_ | refine AW_regD (by kernel_rfl) ?_ | refine AW_regX (by kernel_rfl) ?_ | refine CallAtG.t (Eq.refl true) ?_ | refine CallAtG.f (Eq.refl false) ?_); try simp (disch := omega) only [go_sem, seval, reduceCtorEq, ↓reduceIte, beq_dec, Int.toNat_natCast, IntKind.signed, IntKind.bits]) | refine And.intro (fun hc => (?_ : AW _ _ _ _)) (fun hc => (?_ : AW _ _ _ _)) | simp (disch := omega) only [go_sem, seval, reduceCtorEq, ↓reduceIte, beq_dec, Int.toNat_natCast, IntKind.signed, IntKind.bits] | (refine And.intro ?_ ?_; focus (first | (intros; omega) | (intros; simp_all; done))) | refine And.intro (?_ : CallAt _ _ _ _ _ _ _ _) ?_ | refine And.intro (?_ : CallAt _ _ _ _ _ _ _ _ ∧ _) ?_ | refine And.intro (?_ : AW _ _ _ _) ?_ | fail))
  · simp; intro h; subst h; exact hc rfl
  · have hl : a.length = b.length := by omega
    refine AW_loopK [0, 1] [4, 5, 11, 12, 13, 14, 15, 16, 17, 18, 19, 20, 21, 22, 23, 24, 25, 26] (fun i : Nat => i ≤ a.length ∧ ∀ j, j < i → nth a j = nth b j) (fun i => [(5, .I i)]) (fun _ => []) (fun i => a.length - i) 0 ⟨by omega, by omega⟩ ?_ ?_
    · simp (disch := omega) only [go_sem, seval, reduceCtorEq, ↓reduceIte, beq_dec, Int.toNat_natCast, IntKind.signed, IntKind.bits, Int.natCast_zero]
    · rintro i ⟨hi, hv⟩
      (repeat' (first | refine NextAt.mk (fun hc => ?_) (fun pre n v post hc hkey => ?_) | refine Sni.mk (fun hc => ?_) ?_ | refine Both.mk ?_ ?_ | refine AW_seq ?_ | refine AW_block ?_ | ((first | refine AW_reg ?_ | refine AW_cond ?_ | refine AW_skip ?_ | refine AW_exit ?_ | refine AW_ret ?_ | refine AW_regD (by kernel_rfl) ?_ | refine AW_regX (by kernel_rfl) ?_ | refine CallAtG.t (Eq.refl true) ?_ | refine CallAtG.f (Eq.refl false) ?_ | refine CallAt.mk _ (f16 ..) (by first | (intro h; cases h; done) | (intro _; repeat' (first | exact List.forall_mem_nil _ | trivial | refine List.forall_mem_cons.2 ⟨?_, ?_⟩)) | (intro _; simp [RV.flatP, CD.flatP, getD_map (fun r : List Int => [Row r])]; done)) ?_ | refine CallAtG.mk _ (fun _ => f16 ..) ?_ | refine CallDS.mk _ (by simp [RV.data]) (fun _ => f16 ..) (by first | (intro h; cases h; done) | (intro _; repeat' (first | exact List.forall_mem_nil _ | trivial | refine List.forall_mem_cons.2 ⟨?_, ?_⟩)) | (intro _; simp [RV.flatP, CD.flatP, getD_map (fun r : List Int => [Row r])]; done)) ?_); try simp (disch := omega) only [go_sem, seval, reduceCtorEq, ↓reduceIte, beq_dec, Int.toNat_natCast, IntKind.signed, IntKind.bits, getD_map (fun r : List Int => [Row r])]) | refine And.intro (fun hc => (?_ : AW _ _ _ _)) (fun hc => (?_ : AW _ _ _ _)) | simp (disch := omega) only [go_sem, seval, reduceCtorEq, ↓reduceIte, beq_dec, Int.toNat_natCast, IntKind.signed, IntKind.bits, getD_map (fun r : List Int => [Row r])] | (refine And.intro ?_ ?_; focus (first | (intros; omega) | (intros; simp_all; done))) | refine And.intro (?_ : CallAt _ _ _ _ _ _ _ _) ?_ | refine And.intro (?_ : CallAt _ _ _ _ _ _ _ _ ∧ _) ?_ | refine And.intro (?_ : AW _ _ _ _) ?_ | fail))
      · symm; simp only [decide_eq_false_iff_not]; intro h; subst h; simp at hc
      · refine .mk (i + 1) ⟨by omega, step_lt hv (by simpa using hc)⟩ (by omega) ?_
        simp (disch := omega) only [go_sem, seval, reduceCtorEq, ↓reduceIte, beq_dec, Int.toNat_natCast, IntKind.signed, IntKind.bits, Int.natCast_add, Int.natCast_one]
      · symm; simp only [decide_eq_true_eq]; exact eq_of_nth hl fun j hj => hv j (by omega)
theorem n29n : FnR Try.prog 29 [.c .nil, .c .nil] [.c (.B true)] := by
  have h := n29 [] []
  rw [decide_eq_true rfl] at h
  have h1 : FnR Try.prog 29 [.c (.sl 2 []), .c .nil] [.c (.B true)] := FnR.nil (pre := [.c (.sl 2 [])]) (post := []) (k := 2) h
  exact FnR.nil (pre := []) (post := [.c .nil]) (k := 2) h1
theorem n16n : FnR Try.prog 16 [.c .nil, .c .nil] [.c (.B true)] := by
  have h := f16 [] []
  rw [decide_eq_true rfl] at h
  have h1 : FnR Try.prog 16 [.c (.sl 1 []), .c .nil] [.c (.B true)] := FnR.nil (pre := [.c (.sl 1 [])]) (post := []) (k := 1) h
  exact FnR.nil (pre := []) (post := [.c .nil]) (k := 1) h1
theorem n30n : FnR Try.prog 30 [.c .nil, .c .nil] [.c (.B true)] := by
  have h := n30 [] []
  rw [decide_eq_true rfl] at h
  have h1 : FnR Try.prog 30 [.c (.sl 1 []), .c .nil] [.c (.B true)] := FnR.nil (pre := [.c (.sl 1 [])]) (post := []) (k := 1) h
  exact FnR.nil (pre := []) (post := [.c .nil]) (k := 1) h1
theorem n7e (g : Gr) (hv : validG g = false) : FnR Try.prog 7 [g.av] [.c (.B true)] := by
  have g18 := n18e g hv
  have g25 := n25e g hv
  have g19 := n19e g hv
  have g26 := n26e g hv
  have g27 := n27e g hv
  have g28 := n28e g hv
  have g10 := n10 g
  generalize decide (g.obv.length ≤ 35 ∧ g.rev.length ≤ 35 ∧ g.links.length ≤ 16) = b at *
  refine fn_walk code7 (by simp) ?_
  cases b <;> (repeat' (first | refine NextAt.mk (fun hc => ?_) (fun pre n v post hc hkey => ?_) | refine Sni.mk (fun hc => ?_) ?_ | refine Both.mk ?_ ?_ | refine AW_seq ?_ | refine AW_block ?_ | ((first | refine AW_reg ?_ | refine AW_cond ?_ | refine AW_skip ?_ | refine AW_exit ?_ | refine AW_ret ?_ | refine AW_regD (by kernel_rfl) ?_ | refine AW_regX (by kernel_rfl) ?_ | refine CallAtG.t (Eq.refl true) ?_ | refine CallAtG.f (Eq.refl false) ?_ | refine CallAt.mk _ (n9 ..) (by first | (intro h; cases h; done) | (intro _; repeat' (first | exact List.forall_mem_nil _ | trivial | refine List.forall_mem_cons.2 ⟨?_, ?_⟩)) | (intro _; simp [RV.flatP, CD.flatP]; done)) ?_ | refine CallAtG.mk _ (fun _ => n9 ..) ?_ | refine CallDS.mk _ (by simp [RV.data]) (fun _ => n9 ..) (by first | (intro h; cases h; done) | (intro _; repeat' (first | exact List.forall_mem_nil _ | trivial | refine List.forall_mem_cons.2 ⟨?_, ?_⟩)) | (intro _; simp [RV.flatP, CD.flatP]; done)) ?_ | refine CallAt.mk _ (g10 ..) (by first | (intro h; cases h; done) | (intro _; repeat' (first | exact List.forall_mem_nil _ | trivial | refine List.forall_mem_cons.2 ⟨?_, ?_⟩)) | (intro _; simp [RV.flatP, CD.flatP]; done)) ?_ | refine CallAtG.mk _ (fun _ => g10 ..) ?_ | refine CallDS.mk _ (by simp [RV.data]) (fun _ => g10 ..) (by first | (intro h; cases h; done) | (intro _; repeat' (first | exact List.forall_mem_nil _ | trivial | refine List.forall_mem_cons.2 ⟨?_, ?_⟩)) | (intro _; simp [RV.flatP, CD.flatP]; done)) ?_ | refine CallAt.mk _ (g18 ..) (by first | (intro h; cases h; done) | (intro _; repeat' (first | exact List.forall_mem_nil _ | trivial | refine List.forall_mem_cons.2 ⟨?_, ?_⟩)) | (intro _; simp [RV.flatP, CD.flatP]; done)) ?_ | refine CallAtG.mk _ (fun _ => g18 ..) ?_ | refine CallDS.mk _ (by simp [RV.data]) (fun _ => g18 ..) (by first | (intro h; cases h; done) | (intro _; repeat' (first | exact List.forall_mem_nil _ | trivial | refine List.forall_mem_cons.2 ⟨?_, ?_⟩)) | (intro _; simp [RV.flatP, CD.flatP]; done)) ?_ | refine CallAt.mk _ (g25 ..) (by first | (intro h; cases h; done) | (intro _; repeat' (first | exact List.forall_mem_nil _ | trivial | refine List.forall_mem_cons.2 ⟨?_, ?_⟩)) | (intro _; simp [RV.flatP, CD.flatP]; done)) ?_ | refine CallAtG.mk _ (fun _ => g25 ..) ?_ | refine CallDS.mk _ (by simp [RV.data]) (fun _ => g25 ..) (by first | (intro h; cases h; done) | (intro _; repeat' (first | exact List.forall_mem_nil _ | trivial | refine List.forall_mem_cons.2 ⟨?_, ?_⟩)) | (intro _; simp [RV.flatP, CD.flatP]; done)) ?_ | refine CallAt.mk _ (g19 ..) (by first | (intro h; cases h; done) | (intro _; repeat' (first | exact List.forall_mem_nil _ | trivial | refine List.forall_mem_cons.2 ⟨?_, ?_⟩)) | (intro _; simp [RV.flatP, CD.flatP]; done)) ?_ | refine CallAtG.mk _ (fun _ => g19 ..) ?_ | refine CallDS.mk _ (by simp [RV.data]) (fun _ => g19 ..) (by first | (intro h; cases h; done) | (intro _; repeat' (first | exact List.forall_mem_nil _ | trivial | refine List.forall_mem_cons.2 ⟨?_, ?_⟩)) | (intro _; simp [RV.flatP, CD.flatP]; done)) ?_ | refine CallAt.mk _ (g26 ..) (by first | (intro h; cases h; done) | (intro _; repeat' (first | exact List.forall_mem_nil _ | trivial | refine List.forall_mem_cons.2 ⟨?_, ?_⟩)) | (intro _; simp [RV.flatP, CD.flatP]; done)) ?_ | refine CallAtG.mk _ (fun _ => g26 ..) ?_ | refine CallDS.mk _ (by simp [RV.data]) (fun _ => g26 ..) (by first | (intro h; cases h; done) | (intro _; repeat' (first | exact List.forall_mem_nil _ | trivial | refine List.forall_mem_cons.2 ⟨?_, ?_⟩)) | (intro _; simp [RV.flatP, CD.flatP]; done)) ?_ | refine CallAt.mk _ (g27 ..) (by first | (intro h; cases h; done) | (intro _; repeat' (first | exact List.forall_mem_nil _ | trivial | refine List.forall_mem_cons.2 ⟨?_, ?_⟩)) | (intro _; simp [RV.flatP, CD.flatP]; done)) ?_ | refine CallAtG.mk _ (fun _ => g27 ..) ?_ | refine CallDS.mk _ (by simp [RV.data]) (fun _ => g27 ..) (by first | (intro h; cases h; done) | (intro _; repeat' (first | exact List.forall_mem_nil _ | trivial | refine List.forall_mem_cons.2 ⟨?_, ?_⟩)) | (intro _; simp [RV.flatP, CD.flatP]; done)) ?_ | refine CallAt.mk _ (g28 ..) (by first | (intro h; cases h; done) | (intro _; repeat' (first | exact List.forall_mem_nil _ | trivial | refine List.forall_mem_cons.2 ⟨?_, ?_⟩)) | (intro _; simp [RV.flatP, CD.flatP]; done)) ?_ | refine CallAtG.mk _ (fun _ => g28 ..) ?_ | refine CallDS.mk _ (by simp [RV.data]) (fun _ => g28 ..) (by first | (intro h; cases h; done) | (intro _; repeat' (first | exact List.forall_mem_nil _ | trivial | refine List.forall_mem_cons.2 ⟨?_, ?_⟩)) | (intro _; simp [RV.flatP, CD.flatP]; done)) ?_ | refine CallAt.mk _ (n29n ..) (by first | (intro h; cases h; done) | (intro _; repeat' (first | exact List.forall_mem_nil _ | trivial | refine List.forall_mem_cons.2 ⟨?_, ?_⟩)) | (intro _; simp [RV.flatP, CD.flatP]; done)) ?_ | refine CallAtG.mk _ (fun _ => n29n ..) ?_ | refine CallDS.mk _ (by simp [RV.data]) (fun _ => n29n ..) (by first | (intro h; cases h; done) | (intro _; repeat' (first | exact List.forall_mem_nil _ | trivial | refine List.forall_mem_cons.2 ⟨?_, ?_⟩)) | (intro _; simp [RV.flatP, CD.flatP]; done)) ?_ | refine CallAt.mk _ (n30n ..) (by first | (intro h; cases h; done) | (intro _; repeat' (first | exact List.forall_mem_nil _ | trivial | refine List.forall_mem_cons.2 ⟨?_, ?_⟩)) | (intro _; simp [RV.flatP, CD.flatP]; done)) ?_ | refine CallAtG.mk _ (fun _ => n30n ..) ?_ | refine CallDS.mk _ (by simp [RV.data]) (fun _ => n30n ..) (by first | (intro h; cases h; done) | (intro _; repeat' (first | exact List.forall_mem_nil _ | trivial | refine List.forall_mem_cons.2 ⟨?_, ?_⟩)) | (intro _; simp [RV.flatP, CD.flatP]; done)) ?_ | refine CallAt.mk _ (n16n ..) (by first | (intro h; cases h; done) | (intro _; repeat' (first | exact List.forall_mem_nil _ | trivial | refine List.forall_mem_cons.2 ⟨?_, ?_⟩)) | (intro _; simp [RV.flatP, CD.flatP]; done)) ?_ | refine CallAtG.mk _ (fun _ => n16n ..) ?_ | refine CallDS.mk _ (by simp [RV.data]) (fun _ => n16n ..) (by first | (intro h; cases h; done) | (intro _; repeat' (first | exact List.forall_mem_nil _ | trivial | refine List.forall_mem_cons.2 ⟨?_, ?_⟩)) | (intro _; simp [RV.flatP, CD.flatP]; done)) ?_); try simp (disch := omega) only [go_sem, seval, reduceCtorEq, ↓reduceIte, beq_dec, Int.toNat_natCast, IntKind.signed, IntKind.bits]) | refine And.intro (fun hc => (?_ : AW _ _ _ _)) (fun hc => (?_ : AW _ _ _ _)) | simp (disch := omega) only [go_sem, seval, reduceCtorEq, ↓reduceIte, beq_dec, Int.toNat_natCast, IntKind.signed, IntKind.bits] | (refine And.intro ?_ ?_; focus (first | (intros; omega) | (intros; simp_all; done))) | refine And.intro (?_ : CallAt _ _ _ _ _ _ _ _) ?_ | refine And.intro (?_ : CallAt _ _ _ _ _ _ _ _ ∧ _) ?_ | refine And.intro (?_ : AW _ _ _ _) ?_ | fail))
theorem n7v (g : Gr) (hv : validG g = true) : FnR Try.prog 7 [g.av] [.c (.B true)] := by
  have g18 := n18 g hv
  have g25 := n25 g hv
  have g19 := n19 g hv
  have g26 := n26 g hv
  have g27 := n27 g hv
  have g28 := n28 g hv
  have g10 := n10 g
  have g1 := f16 (bridgesG g) (bridgesG g)
  have g2 := n29 (hingesG g) (hingesG g)
  have g3 := n30 (blG g) (blG g)
  rw [decide_eq_true rfl] at g1 g2 g3
  generalize bridgesG g = br at *
  generalize hingesG g = hi at *
  generalize blG g = bl at *
  generalize decide (g.obv.length ≤ 35 ∧ g.rev.length ≤ 35 ∧ g.links.length ≤ 16) = b at *
  refine fn_walk code7 (by simp) ?_
  cases b <;> (repeat' (first | refine NextAt.mk (fun hc => ?_) (fun pre n v post hc hkey => ?_) | refine Sni.mk (fun hc => ?_) ?_ | refine Both.mk ?_ ?_ | refine AW_seq ?_ | refine AW_block ?_ | ((first | refine AW_reg ?_ | refine AW_cond ?_ | refine AW_skip ?_ | refine AW_exit ?_ | refine AW_ret ?_ | refine AW_regD (by kernel_rfl) ?_ | refine AW_regX (by kernel_rfl) ?_ | refine CallAtG.t (Eq.refl true) ?_ | refine CallAtG.f (Eq.refl false) ?_ | refine CallAt.mk _ (n9 ..) (by first | (intro h; cases h; done) | (intro _; repeat' (first | exact List.forall_mem_nil _ | trivial | refine List.forall_mem_cons.2 ⟨?_, ?_⟩)) | (intro _; simp [RV.flatP, CD.flatP]; done)) ?_ | refine CallAtG.mk _ (fun _ => n9 ..) ?_ | refine CallDS.mk _ (by simp [RV.data]) (fun _ => n9 ..) (by first | (intro h; cases h; done) | (intro _; repeat' (first | exact List.forall_mem_nil _ | trivial | refine List.forall_mem_cons.2 ⟨?_, ?_⟩)) | (intro _; simp [RV.flatP, CD.flatP]; done)) ?_ | refine CallAt.mk _ (g10 ..) (by first | (intro h; cases h; done) | (intro _; repeat' (first | exact List.forall_mem_nil _ | trivial | refine List.forall_mem_cons.2 ⟨?_, ?_⟩)) | (intro _; simp [RV.flatP, CD.flatP]; done)) ?_ | refine CallAtG.mk _ (fun _ => g10 ..) ?_ | refine CallDS.mk _ (by simp [RV.data]) (fun _ => g10 ..) (by first | (intro h; cases h; done) | (intro _; repeat' (first | exact List.forall_mem_nil _ | trivial | refine List.forall_mem_cons.2 ⟨?_, ?_⟩)) | (intro _; simp [RV.flatP, CD.flatP]; done)) ?_ | refine CallAt.mk _ (g18 ..) (by first | (intro h; cases h; done) | (intro _; repeat' (first | exact List.forall_mem_nil _ | trivial | refine List.forall_mem_cons.2 ⟨?_, ?_⟩)) | (intro _; simp [RV.flatP, CD.flatP]; done)) ?_ | refine CallAtG.mk _ (fun _ => g18 ..) ?_ | refine CallDS.mk _ (by simp [RV.data]) (fun _ => g18 ..) (by first | (intro h; cases h; done) | (intro _; repeat' (first | exact List.forall_mem_nil _ | trivial | refine List.forall_mem_cons.2 ⟨?_, ?_⟩)) | (intro _; simp [RV.flatP, CD.flatP]; done)) ?_ | refine CallAt.mk _ (g25 ..) (by first | (intro h; cases h; done) | (intro _; repeat' (first | exact List.forall_mem_nil _ | trivial | refine List.forall_mem_cons.2 ⟨?_, ?_⟩)) | (intro _; simp [RV.flatP, CD.flatP]; done)) ?_ | refine CallAtG.mk _ (fun _ => g25 ..) ?_ | refine CallDS.mk _ (by simp [RV.data]) (fun _ => g25 ..) (by first | (intro h; cases h; done) | (intro _; repeat' (first | exact List.forall_mem_nil _ | trivial | refine List.forall_mem_cons.2 ⟨?_, ?_⟩)) | (intro _; simp [RV.flatP, CD.flatP]; done)) ?_ | refine CallAt.mk _ (g19 ..) (by first | (intro h; cases h; done) | (intro _; repeat' (first | exact List.forall_mem_nil _ | trivial | refine List.forall_mem_cons.2 ⟨?_, ?_⟩)) | (intro _; simp [RV.flatP, CD.flatP]; done)) ?_ | refine CallAtG.mk _ (fun _ => g19 ..) ?_ | refine CallDS.mk _ (by simp [RV.data]) (fun _ => g19 ..) (by first | (intro h; cases h; done) | (intro _; repeat' (first | exact List.forall_mem_nil _ | trivial | refine List.forall_mem_cons.2 ⟨?_, ?_⟩)) | (intro _; simp [RV.flatP, CD.flatP]; done)) ?_ | refine CallAt.mk _ (g26 ..) (by first | (intro h; cases h; done) | (intro _; repeat' (first | exact List.forall_mem_nil _ | trivial | refine List.forall_mem_cons.2 ⟨?_, ?_⟩)) | (intro _; simp [RV.flatP, CD.flatP]; done)) ?_ | refine CallAtG.mk _ (fun _ => g26 ..) ?_ | refine CallDS.mk _ (by simp [RV.data]) (fun _ => g26 ..) (by first | (intro h; cases h; done) | (intro _; repeat' (first | exact List.forall_mem_nil _ | trivial | refine List.forall_mem_cons.2 ⟨?_, ?_⟩)) | (intro _; simp [RV.flatP, CD.flatP]; done)) ?_ | refine CallAt.mk _ (g27 ..) (by first | (intro h; cases h; done) | (intro _; repeat' (first | exact List.forall_mem_nil _ | trivial | refine List.forall_mem_cons.2 ⟨?_, ?_⟩)) | (intro _; simp [RV.flatP, CD.flatP]; done)) ?_ | refine CallAtG.mk _ (fun _ => g27 ..) ?_ | refine CallDS.mk _ (by simp [RV.data]) (fun _ => g27 ..) (by first | (intro h; cases h; done) | (intro _; repeat' (first | exact List.forall_mem_nil _ | trivial | refine List.forall_mem_cons.2 ⟨?_, ?_⟩)) | (intro _; simp [RV.flatP, CD.flatP]; done)) ?_ | refine CallAt.mk _ (g28 ..) (by first | (intro h; cases h; done) | (intro _; repeat' (first | exact List.forall_mem_nil _ | trivial | refine List.forall_mem_cons.2 ⟨?_, ?_⟩)) | (intro _; simp [RV.flatP, CD.flatP]; done)) ?_ | refine CallAtG.mk _ (fun _ => g28 ..) ?_ | refine CallDS.mk _ (by simp [RV.data]) (fun _ => g28 ..) (by first | (intro h; cases h; done) | (intro _; repeat' (first | exact List.forall_mem_nil _ | trivial | refine List.forall_mem_cons.2 ⟨?_, ?_⟩)) | (intro _; simp [RV.flatP, CD.flatP]; done)) ?_ | refine CallAt.mk _ (g1 ..) (by first | (intro h; cases h; done) | (intro _; repeat' (first | exact List.forall_mem_nil _ | trivial | refine List.forall_mem_cons.2 ⟨?_, ?_⟩)) | (intro _; simp [RV.flatP, CD.flatP]; done)) ?_ | refine CallAtG.mk _ (fun _ => g1 ..) ?_ | refine CallDS.mk _ (by simp [RV.data]) (fun _ => g1 ..) (by first | (intro h; cases h; done) | (intro _; repeat' (first | exact List.forall_mem_nil _ | trivial | refine List.forall_mem_cons.2 ⟨?_, ?_⟩)) | (intro _; simp [RV.flatP, CD.flatP]; done)) ?_ | refine CallAt.mk _ (g2 ..) (by first | (intro h; cases h; done) | (intro _; repeat' (first | exact List.forall_mem_nil _ | trivial | refine List.forall_mem_cons.2 ⟨?_, ?_⟩)) | (intro _; simp [RV.flatP, CD.flatP]; done)) ?_ | refine CallAtG.mk _ (fun _ => g2 ..) ?_ | refine CallDS.mk _ (by simp [RV.data]) (fun _ => g2 ..) (by first | (intro h; cases h; done) | (intro _; repeat' (first | exact List.forall_mem_nil _ | trivial | refine List.forall_mem_cons.2 ⟨?_, ?_⟩)) | (intro _; simp [RV.flatP, CD.flatP]; done)) ?_ | refine CallAt.mk _ (g3 ..) (by first | (intro h; cases h; done) | (intro _; repeat' (first | exact List.forall_mem_nil _ | trivial | refine List.forall_mem_cons.2 ⟨?_, ?_⟩)) | (intro _; simp [RV.flatP, CD.flatP]; done)) ?_ | refine CallAtG.mk _ (fun _ => g3 ..) ?_ | refine CallDS.mk _ (by simp [RV.data]) (fun _ => g3 ..) (by first | (intro h; cases h; done) | (intro _; repeat' (first | exact List.forall_mem_nil _ | trivial | refine List.forall_mem_cons.2 ⟨?_, ?_⟩)) | (intro _; simp [RV.flatP, CD.flatP]; done)) ?_); try simp (disch := omega) only [go_sem, seval, reduceCtorEq, ↓reduceIte, beq_dec, Int.toNat_natCast, IntKind.signed, IntKind.bits]) | refine And.intro (fun hc => (?_ : AW _ _ _ _)) (fun hc => (?_ : AW _ _ _ _)) | simp (disch := omega) only [go_sem, seval, reduceCtorEq, ↓reduceIte, beq_dec, Int.toNat_natCast, IntKind.signed, IntKind.bits] | (refine And.intro ?_ ?_; focus (first | (intros; omega) | (intros; simp_all; done))) | refine And.intro (?_ : CallAt _ _ _ _ _ _ _ _) ?_ | refine And.intro (?_ : CallAt _ _ _ _ _ _ _ _ ∧ _) ?_ | refine And.intro (?_ : AW _ _ _ _) ?_ | fail))
theorem BridgeFinds_fn : ∀ xs, TyArgs [(true, grSh)] xs → FnR Try.prog 7 xs [.c (.B true)] := by
  intro xs h
  obtain ⟨d1, _, rfl, h1, h⟩ := h.cons_inv
  obtain rfl := h.nil_inv
  obtain ⟨g, rfl⟩ := gr_of h1
  cases hv : validG g with
  | true => exact n7v g hv
  | false => exact n7e g hv
theorem BridgeFinds_holds : Rows.BridgeFindsSaid :=
  OpenClaim.holds_of_wide 7 Try.f7 rfl rfl rfl rfl rfl rfl rfl ⟨rfl, rfl, rfl, rfl, rfl⟩ rfl rfl rfl rfl rfl (by kernel_rfl) Try.func7 (by kernel_rfl)
    (of_decide_eq_true (by kernel_rfl)) (by unfold Func.isWrapper; first | (rw [if_pos (by decide +kernel)]; kernel_rfl) | (rw [if_neg (by decide +kernel)]; exact ⟨rfl, rfl⟩))
    (fun os started H enc _ => law_lifted (s := Rows.bridgeFindsSpec) (C := Try.checked) (n := 12) Try.own Try.laidOut (by kernel_rfl) Try.func7 (by decide +kernel) rfl (by kernel_rfl) rfl (by kernel_rfl) (fun H ds h => by
      match ds, h with
      | [d1], _ => rfl) BridgeFinds_fn os started H enc
      (ChangeSpec.witness6 (enc := enc) (C := Try.checked) false ⟨#[], #[.agg #[.slice none 0 0, .slice none 0 0, .slice none 0 0]], []⟩ 12 (by kernel_rfl) (by kernel_rfl) (by kernel_rfl) (by kernel_rfl)))
end Go.Proofs.Ytgldpbghbkoolaa

