/-
  Lemmas for the proof: no statement of its own.
-/
import Derived.Test.YtlomngideedobaaPlainC
import Derived.KernelRfl
set_option linter.unusedVariables false
set_option linter.unusedSimpArgs false
-- P p_14.txt
open Go Go.AL Go.RowKit
namespace Go.Proofs.Ytlomngideedobaa
set_option maxRecDepth 20000
/- coinage/coinagelaw14.ComponentGrows -/
abbrev c6_1 : AC := .reg [⟨(some 3), .box 25 (some 3) (.t 0), none⟩,
  ⟨(some 6), .mv (.k (.B false)), none⟩] false
abbrev c6_2 : AC := .reg [⟨(some 21), .call 10 [], none⟩,
  ⟨(some 22), .not (.t 21), none⟩,
  ⟨(some 23), .mv (.t 22), none⟩,
  ⟨(some 24), .ld (some 3) (.t 3), (some (23, false))⟩,
  ⟨(some 25), .call 11 [(.t 24)], (some (23, false))⟩,
  ⟨(some 26), .not (.t 25), (some (23, false))⟩,
  ⟨(some 27), .pick (.t 23) (.k (.B true)) (.t 26), none⟩,
  ⟨(some 28), .mv (.t 27), none⟩,
  ⟨(some 29), .ld (some 3) (.t 3), (some (28, false))⟩,
  ⟨(some 30), .call 26 [(.t 29)], (some (28, false))⟩,
  ⟨(some 31), .not (.t 30), (some (28, false))⟩,
  ⟨(some 32), .pick (.t 28) (.k (.B true)) (.t 31), none⟩,
  ⟨(some 33), .mv (.t 32), none⟩,
  ⟨(some 34), .fad 2 (.t 3), (some (33, false))⟩,
  ⟨(some 35), .ld none (.t 34), (some (33, false))⟩,
  ⟨(some 36), .len (.t 35), (some (33, false))⟩,
  ⟨(some 37), .bin .eql (.t 36) (.k (.I 0)), (some (33, false))⟩,
  ⟨(some 38), .pick (.t 33) (.k (.B true)) (.t 37), none⟩,
  ⟨(some 39), .mv (.t 38), none⟩,
  ⟨(some 40), .fad 2 (.t 3), (some (39, false))⟩,
  ⟨(some 41), .ld none (.t 40), (some (39, false))⟩,
  ⟨(some 42), .len (.t 41), (some (39, false))⟩,
  ⟨(some 43), .bin .geq (.t 42) (.k (.I 64)), (some (39, false))⟩,
  ⟨(some 44), .pick (.t 39) (.k (.B true)) (.t 43), none⟩] false
abbrev c6_3 : AC := .reg [⟨(some 45), .call 10 [], none⟩,
  ⟨(some 6), .mv (.t 45), none⟩] false
abbrev c6_4 : AC := .seq c6_3 .ret
abbrev c6_5 : AC := .cond (.t 44) c6_4 .skip
abbrev c6_6 : AC := .seq c6_2 c6_5
abbrev c6_7 : AC := .regD [(⟨(some 46), .fad 0 (.t 3), none⟩, [3]),
  (⟨(some 47), .ld none (.t 46), none⟩, [46]),
  (⟨(some 48), .mv (.t 1), none⟩, [1]),
  (⟨(some 49), .fad 0 (.t 3), none⟩, [3]),
  (⟨(some 50), .ld none (.t 49), none⟩, [49]),
  (⟨(some 51), .len (.t 50), none⟩, [50]),
  (⟨(some 52), .call 27 [(.t 48), (.t 51)], none⟩, [48, 51]),
  (⟨(some 53), .iad 1 (.t 47) (.t 52), none⟩, [47, 52]),
  (⟨(some 54), .ld none (.t 53), none⟩, [53]),
  (⟨(some 55), .fad 1 (.t 3), none⟩, [3]),
  (⟨(some 56), .ld none (.t 55), none⟩, [55]),
  (⟨(some 57), .mv (.t 2), none⟩, [2]),
  (⟨(some 58), .fad 1 (.t 3), none⟩, [3]),
  (⟨(some 59), .ld none (.t 58), none⟩, [58]),
  (⟨(some 60), .len (.t 59), none⟩, [59]),
  (⟨(some 61), .call 27 [(.t 57), (.t 60)], none⟩, [57, 60]),
  (⟨(some 62), .iad 1 (.t 56) (.t 61), none⟩, [56, 61]),
  (⟨(some 63), .ld none (.t 62), none⟩, [62]),
  (⟨(some 7), .mv (.t 54), none⟩, [54]),
  (⟨(some 8), .mv (.t 63), none⟩, [63])]
abbrev c6_8 : AC := .reg [⟨(some 9), .mv (.k (.I 1)), none⟩] false
abbrev c6_9 : AC := .reg [⟨(some 10), .mv (.k (.I 0)), none⟩] false
abbrev c6_10 : AC := .reg [⟨(some 64), .mv (.t 10), none⟩,
  ⟨(some 65), .fad 2 (.t 3), none⟩,
  ⟨(some 66), .ld none (.t 65), none⟩,
  ⟨(some 67), .len (.t 66), none⟩,
  ⟨(some 68), .bin .lss (.t 64) (.t 67), none⟩] false
abbrev c6_11 : AC := .cond (.t 68) .skip (.exit 0)
abbrev c6_12 : AC := .seq c6_10 c6_11
abbrev c6_13 : AC := .reg [⟨(some 71), .fad 2 (.t 3), none⟩,
  ⟨(some 72), .ld none (.t 71), none⟩,
  ⟨(some 73), .mv (.t 10), none⟩,
  ⟨(some 74), .iad 3 (.t 72) (.t 73), none⟩,
  ⟨(some 75), .fad 0 (.t 74), none⟩,
  ⟨(some 76), .ld none (.t 75), none⟩,
  ⟨(some 77), .mv (.t 9), none⟩,
  ⟨(some 78), .bin .eql (.t 76) (.t 77), none⟩] false
abbrev c6_14 : AC := .reg [⟨(some 79), .mv (.t 9), none⟩,
  ⟨(some 80), .bin .add (.t 79) (.k (.I 1)), none⟩,
  ⟨(some 9), .mv (.t 80), none⟩] false
abbrev c6_15 : AC := .cond (.t 78) c6_14 .skip
abbrev c6_16 : AC := .seq c6_13 c6_15
abbrev c6_17 : AC := .block 1 c6_16
abbrev c6_18 : AC := .reg [⟨(some 69), .mv (.t 10), none⟩,
  ⟨(some 70), .bin .add (.t 69) (.k (.I 1)), none⟩,
  ⟨(some 10), .mv (.t 70), none⟩] false
abbrev c6_19 : AC := .seq c6_17 c6_18
abbrev c6_20 : AC := .seq c6_12 c6_19
abbrev c6_21 : AC := .loop c6_20
abbrev c6_22 : AC := .block 0 c6_21
abbrev c6_23 : AC := .seq c6_9 c6_22
abbrev c6_24 : AC := .reg [⟨(some 81), .bslice 47 3 [], none⟩,
  ⟨(some 82), .fad 2 (.t 3), none⟩,
  ⟨(some 83), .ld none (.t 82), none⟩,
  ⟨(some 84), .app 47 3 24 (.t 81) (.t 83), none⟩,
  ⟨(some 85), .mv (.t 9), none⟩,
  ⟨(some 86), .mv (.t 7), none⟩,
  ⟨(some 87), .mv (.t 8), none⟩,
  ⟨(some 88), .build [(.I 0), (.I 0), (.I 0)] [(0, 1, (.t 85)), (1, 1, (.t 86)), (2, 1, (.t 87))], none⟩,
  ⟨(some 89), .bslice 47 3 [(.t 88)], none⟩,
  ⟨(some 90), .app 47 3 24 (.t 84) (.t 89), none⟩,
  ⟨(some 91), .call 28 [(.t 90)], none⟩,
  ⟨(some 11), .alloc 25 [(.c .nil), (.c .nil), (.c .nil)], none⟩,
  ⟨none, .st (some 3) (.t 11) (.t 91), none⟩] false
abbrev c6_25 : AC := .reg [⟨(some 92), .ld (some 3) (.t 3), none⟩,
  ⟨(some 93), .mv (.t 7), none⟩,
  ⟨(some 94), .build [(.I 0), (.I 0)] [(1, 1, (.t 93))], none⟩,
  ⟨(some 95), .mv (.t 8), none⟩,
  ⟨(some 96), .build [(.I 0), (.I 0)] [(0, 1, (.k (.I 1))), (1, 1, (.t 95))], none⟩,
  ⟨(some 97), .call 17 [(.t 92), (.t 94), (.t 96)], none⟩,
  ⟨(some 12), .mv (.t 97), none⟩] false
abbrev c6_26 : AC := .reg [⟨(some 99), .ld (some 3) (.t 3), none⟩,
  ⟨(some 100), .call 20 [(.t 99)], none⟩,
  ⟨(some 98), .mv (.t 100), none⟩,
  ⟨(some 101), .ext (.t 98) 0, none⟩,
  ⟨(some 102), .ext (.t 98) 1, none⟩,
  ⟨(some 13), .mv (.t 101), none⟩,
  ⟨(some 14), .mv (.t 102), none⟩] false
abbrev c6_27 : AC := .reg [⟨(some 104), .ld (some 3) (.t 11), none⟩,
  ⟨(some 105), .call 20 [(.t 104)], none⟩,
  ⟨(some 103), .mv (.t 105), none⟩,
  ⟨(some 106), .ext (.t 103) 0, none⟩,
  ⟨(some 107), .ext (.t 103) 1, none⟩,
  ⟨(some 15), .mv (.t 106), none⟩,
  ⟨(some 16), .mv (.t 107), none⟩] false
abbrev c6_28 : AC := .reg [⟨(some 109), .ld (some 3) (.t 3), none⟩,
  ⟨(some 110), .call 21 [(.t 109)], none⟩,
  ⟨(some 108), .mv (.t 110), none⟩,
  ⟨(some 111), .ext (.t 108) 0, none⟩,
  ⟨(some 112), .ext (.t 108) 1, none⟩,
  ⟨(some 17), .mv (.t 111), none⟩,
  ⟨(some 18), .mv (.t 112), none⟩] false
abbrev c6_29 : AC := .reg [⟨(some 114), .ld (some 3) (.t 11), none⟩,
  ⟨(some 115), .call 21 [(.t 114)], none⟩,
  ⟨(some 113), .mv (.t 115), none⟩,
  ⟨(some 116), .ext (.t 113) 0, none⟩,
  ⟨(some 117), .ext (.t 113) 1, none⟩,
  ⟨(some 19), .mv (.t 116), none⟩,
  ⟨(some 20), .mv (.t 117), none⟩] false
abbrev c6_30 : AC := .reg [⟨(some 118), .mv (.t 14), none⟩,
  ⟨(some 119), .bin .neq (.t 118) (.k (.I 0)), none⟩,
  ⟨(some 120), .mv (.t 119), none⟩,
  ⟨(some 121), .mv (.t 16), (some (120, false))⟩,
  ⟨(some 122), .bin .neq (.t 121) (.k (.I 0)), (some (120, false))⟩,
  ⟨(some 123), .pick (.t 120) (.k (.B true)) (.t 122), none⟩,
  ⟨(some 124), .mv (.t 123), none⟩,
  ⟨(some 125), .mv (.t 18), (some (124, false))⟩,
  ⟨(some 126), .bin .neq (.t 125) (.k (.I 0)), (some (124, false))⟩,
  ⟨(some 127), .pick (.t 124) (.k (.B true)) (.t 126), none⟩,
  ⟨(some 128), .mv (.t 127), none⟩,
  ⟨(some 129), .mv (.t 20), (some (128, false))⟩,
  ⟨(some 130), .bin .neq (.t 129) (.k (.I 0)), (some (128, false))⟩,
  ⟨(some 131), .pick (.t 128) (.k (.B true)) (.t 130), none⟩] false
abbrev c6_31 : AC := .reg [⟨(some 6), .mv (.k (.B false)), none⟩] false
abbrev c6_32 : AC := .seq c6_31 .ret
abbrev c6_33 : AC := .cond (.t 131) c6_32 .skip
abbrev c6_34 : AC := .seq c6_30 c6_33
abbrev c6_35 : AC := .reg [⟨(some 132), .mv (.t 12), none⟩] false
abbrev c6_36 : AC := .reg [⟨(some 133), .mv (.t 13), none⟩,
  ⟨(some 134), .len (.t 133), none⟩,
  ⟨(some 135), .mv (.t 15), none⟩,
  ⟨(some 136), .len (.t 135), none⟩,
  ⟨(some 137), .bin .eql (.t 134) (.t 136), none⟩,
  ⟨(some 138), .mv (.t 137), none⟩,
  ⟨(some 139), .mv (.t 19), (some (138, true))⟩,
  ⟨(some 140), .mv (.t 17), (some (138, true))⟩,
  ⟨(some 141), .bin .add (.t 140) (.k (.I 1)), (some (138, true))⟩,
  ⟨(some 142), .bin .eql (.t 139) (.t 141), (some (138, true))⟩,
  ⟨(some 143), .pick (.t 138) (.t 142) (.k (.B false)), none⟩,
  ⟨(some 6), .mv (.t 143), none⟩] false
abbrev c6_37 : AC := .seq c6_36 .ret
abbrev c6_38 : AC := .cond (.t 132) c6_37 .skip
abbrev c6_39 : AC := .seq c6_35 c6_38
abbrev c6_40 : AC := .reg [⟨(some 144), .mv (.t 15), none⟩,
  ⟨(some 145), .len (.t 144), none⟩,
  ⟨(some 146), .mv (.t 13), none⟩,
  ⟨(some 147), .len (.t 146), none⟩,
  ⟨(some 148), .bin .sub (.t 147) (.k (.I 1)), none⟩,
  ⟨(some 149), .bin .eql (.t 145) (.t 148), none⟩,
  ⟨(some 150), .mv (.t 149), none⟩,
  ⟨(some 151), .mv (.t 19), (some (150, true))⟩,
  ⟨(some 152), .mv (.t 17), (some (150, true))⟩,
  ⟨(some 153), .bin .eql (.t 151) (.t 152), (some (150, true))⟩,
  ⟨(some 154), .pick (.t 150) (.t 153) (.k (.B false)), none⟩,
  ⟨(some 6), .mv (.t 154), none⟩] false
abbrev c6_41 : AC := .seq c6_40 .ret
abbrev c6_42 : AC := .seq c6_39 c6_41
abbrev c6_43 : AC := .seq c6_34 c6_42
abbrev c6_44 : AC := .seq c6_29 c6_43
abbrev c6_45 : AC := .seq c6_28 c6_44
abbrev c6_46 : AC := .seq c6_27 c6_45
abbrev c6_47 : AC := .seq c6_26 c6_46
abbrev c6_48 : AC := .seq c6_25 c6_47
abbrev c6_49 : AC := .seq c6_24 c6_48
abbrev c6_50 : AC := .seq c6_23 c6_49
abbrev c6_51 : AC := .seq c6_8 c6_50
abbrev c6_52 : AC := .seq c6_7 c6_51
abbrev c6_53 : AC := .seq c6_6 c6_52
abbrev c6_54 : AC := .seq c6_1 c6_53
abbrev c6 : AC := c6_54
theorem code6 : fnCode Try.prog 6 = some (c6, [6], 155) := by kernel_rfl

theorem tmod_fix (a b : Int) (hb : 0 < b) : (if a.tmod b < 0 then a.tmod b + b else a.tmod b) = a % b := by
  have h3 : a.tmod b = a % b - ((if 0 ≤ a ∨ b ∣ a then 0 else b.natAbs : Nat) : Int) := Int.tmod_eq_emod
  have h4 := Int.emod_nonneg a (show b ≠ 0 by omega)
  have h5 := Int.emod_lt_of_pos a hb
  have h6 : (b.natAbs : Int) = b := Int.natAbs_of_nonneg (by omega)
  rw [h3]
  by_cases hc : 0 ≤ a ∨ b ∣ a
  · rw [if_pos hc]
    split <;> omega
  · rw [if_neg hc]
    have : ¬ a % b = 0 := fun h => hc (.inr (Int.dvd_of_emod_eq_zero h))
    split <;> omega
theorem f27 (a b : Int) (hb : 0 < b) (hb2 : b ≤ 1000) : FnR Try.prog 27 [.I a, .I b] [.c (.I (a % b))] := by
  have h := tmod_fix a b hb
  have h1 : a.tmod b < b := Int.tmod_lt_of_pos a hb
  have h2 : -b < a.tmod b := Int.lt_tmod_of_pos a hb
  refine fn_walk code27 (by simp) ?_
  (repeat' (first | refine NextAt.mk (fun hc => ?_) (fun pre n v post hc hkey => ?_) | refine Sni.mk (fun hc => ?_) ?_ | refine Both.mk ?_ ?_ | refine AW_seq ?_ | refine AW_block ?_ | ((first | refine AW_reg ?_ | refine AW_cond ?_ | refine AW_skip ?_ | refine AW_exit ?_ | refine AW_ret ?_ | refine AW_regD (by kernel_rfl) ?_ | refine AW_regX (by kernel_rfl) ?_ | refine CallAtG.t (Eq.refl true) ?_ | refine CallAtG.f (Eq.refl false) ?_); try simp (disch := omega) only [go_sem, seval, reduceCtorEq, ↓reduceIte, beq_dec, Int.toNat_natCast, IntKind.signed, IntKind.bits, inK]) | refine And.intro (fun hc => (?_ : AW _ _ _ _)) (fun hc => (?_ : AW _ _ _ _)) | simp (disch := omega) only [go_sem, seval, reduceCtorEq, ↓reduceIte, beq_dec, Int.toNat_natCast, IntKind.signed, IntKind.bits, inK] | (refine And.intro ?_ ?_; focus (first | (intros; omega) | (intros; simp_all; done))) | refine And.intro (?_ : CallAt _ _ _ _ _ _ _ _) ?_ | refine And.intro (?_ : CallAt _ _ _ _ _ _ _ _ ∧ _) ?_ | refine And.intro (?_ : AW _ _ _ _) ?_ | fail))
  all_goals first
    | omega
    | (rename_i hc; simp only [hc, if_true, if_false] at h; rw [← h])
theorem hold6 {Q : Exit → St → Prop} {σ : St} (h : Hold (AW Try.prog c6_24 Q σ)) : AW Try.prog c6_24 Q σ := h.out
theorem f6e (g : Gr) (a b : Int) (hn : ¬ (g.obv.length ≤ 40 ∧ g.rev.length ≤ 40 ∧ g.links.length ≤ 70) ∨ validG g = false ∨ g.links.length = 0 ∨ 64 ≤ g.links.length) : FnR Try.prog 6 [g.av, .I a, .I b] [.c (.B true)] := by
  have g11 := f11 g
  have g26 := f26 g
  by_cases hf : g.obv.length ≤ 40 ∧ g.rev.length ≤ 40 ∧ g.links.length ≤ 70
  · rw [show decide (g.obv.length ≤ 40 ∧ g.rev.length ≤ 40 ∧ g.links.length ≤ 70) = true from decide_eq_true hf] at g11
    cases hv : validG g with
    | false =>
      rw [hv] at g26
      refine fn_walk code6 (by simp) ?_
      (repeat' (first | refine NextAt.mk (fun hc => ?_) (fun pre n v post hc hkey => ?_) | refine Sni.mk (fun hc => ?_) ?_ | refine Both.mk ?_ ?_ | refine AW_seq ?_ | refine AW_block ?_ | ((first | refine AW_reg ?_ | refine AW_cond ?_ | refine AW_skip ?_ | refine AW_exit ?_ | refine AW_ret ?_ | refine AW_regD (by kernel_rfl) ?_ | refine AW_regX (by kernel_rfl) ?_ | refine CallAtG.t (Eq.refl true) ?_ | refine CallAtG.f (Eq.refl false) ?_ | refine CallAt.mk _ (f10 ..) (by first | (intro h; cases h; done) | (intro _; repeat' (first | exact List.forall_mem_nil _ | trivial | refine List.forall_mem_cons.2 ⟨?_, ?_⟩)) | (intro _; simp [RV.flatP, CD.flatP]; done)) ?_ | refine CallAtG.mk _ (fun _ => f10 ..) ?_ | refine CallDS.mk _ (by simp [RV.data]) (fun _ => f10 ..) (by first | (intro h; cases h; done) | (intro _; repeat' (first | exact List.forall_mem_nil _ | trivial | refine List.forall_mem_cons.2 ⟨?_, ?_⟩)) | (intro _; simp [RV.flatP, CD.flatP]; done)) ?_ | refine CallAt.mk _ (g11 ..) (by first | (intro h; cases h; done) | (intro _; repeat' (first | exact List.forall_mem_nil _ | trivial | refine List.forall_mem_cons.2 ⟨?_, ?_⟩)) | (intro _; simp [RV.flatP, CD.flatP]; done)) ?_ | refine CallAtG.mk _ (fun _ => g11 ..) ?_ | refine CallDS.mk _ (by simp [RV.data]) (fun _ => g11 ..) (by first | (intro h; cases h; done) | (intro _; repeat' (first | exact List.forall_mem_nil _ | trivial | refine List.forall_mem_cons.2 ⟨?_, ?_⟩)) | (intro _; simp [RV.flatP, CD.flatP]; done)) ?_ | refine CallAt.mk _ (g26 ..) (by first | (intro h; cases h; done) | (intro _; repeat' (first | exact List.forall_mem_nil _ | trivial | refine List.forall_mem_cons.2 ⟨?_, ?_⟩)) | (intro _; simp [RV.flatP, CD.flatP]; done)) ?_ | refine CallAtG.mk _ (fun _ => g26 ..) ?_ | refine CallDS.mk _ (by simp [RV.data]) (fun _ => g26 ..) (by first | (intro h; cases h; done) | (intro _; repeat' (first | exact List.forall_mem_nil _ | trivial | refine List.forall_mem_cons.2 ⟨?_, ?_⟩)) | (intro _; simp [RV.flatP, CD.flatP]; done)) ?_); try simp (disch := omega) only [go_sem, seval, reduceCtorEq, ↓reduceIte, beq_dec, Int.toNat_natCast, IntKind.signed, IntKind.bits]) | refine And.intro (fun hc => (?_ : AW _ _ _ _)) (fun hc => (?_ : AW _ _ _ _)) | simp (disch := omega) only [go_sem, seval, reduceCtorEq, ↓reduceIte, beq_dec, Int.toNat_natCast, IntKind.signed, IntKind.bits] | (refine And.intro ?_ ?_; focus (first | (intros; omega) | (intros; simp_all; done))) | refine And.intro (?_ : CallAt _ _ _ _ _ _ _ _) ?_ | refine And.intro (?_ : CallAt _ _ _ _ _ _ _ _ ∧ _) ?_ | refine And.intro (?_ : AW _ _ _ _) ?_ | fail))
    | true =>
      rw [hv] at g26
      have hsm := valid_small hv
      by_cases h0 : g.links.length = 0
      · have e1 : ((g.links.length : Int) = 0) = True := by simp; exact List.length_eq_zero_iff.1 h0
        refine fn_walk code6 (by simp) ?_
        (repeat' (first | refine NextAt.mk (fun hc => ?_) (fun pre n v post hc hkey => ?_) | refine Sni.mk (fun hc => ?_) ?_ | refine Both.mk ?_ ?_ | refine AW_seq ?_ | refine AW_block ?_ | ((first | refine AW_reg ?_ | refine AW_cond ?_ | refine AW_skip ?_ | refine AW_exit ?_ | refine AW_ret ?_ | refine AW_regD (by kernel_rfl) ?_ | refine AW_regX (by kernel_rfl) ?_ | refine CallAtG.t (Eq.refl true) ?_ | refine CallAtG.f (Eq.refl false) ?_ | refine CallAt.mk _ (f10 ..) (by first | (intro h; cases h; done) | (intro _; repeat' (first | exact List.forall_mem_nil _ | trivial | refine List.forall_mem_cons.2 ⟨?_, ?_⟩)) | (intro _; simp [RV.flatP, CD.flatP, e1, List.length_map]; done)) ?_ | refine CallAtG.mk _ (fun _ => f10 ..) ?_ | refine CallDS.mk _ (by simp [RV.data]) (fun _ => f10 ..) (by first | (intro h; cases h; done) | (intro _; repeat' (first | exact List.forall_mem_nil _ | trivial | refine List.forall_mem_cons.2 ⟨?_, ?_⟩)) | (intro _; simp [RV.flatP, CD.flatP, e1, List.length_map]; done)) ?_ | refine CallAt.mk _ (g11 ..) (by first | (intro h; cases h; done) | (intro _; repeat' (first | exact List.forall_mem_nil _ | trivial | refine List.forall_mem_cons.2 ⟨?_, ?_⟩)) | (intro _; simp [RV.flatP, CD.flatP, e1, List.length_map]; done)) ?_ | refine CallAtG.mk _ (fun _ => g11 ..) ?_ | refine CallDS.mk _ (by simp [RV.data]) (fun _ => g11 ..) (by first | (intro h; cases h; done) | (intro _; repeat' (first | exact List.forall_mem_nil _ | trivial | refine List.forall_mem_cons.2 ⟨?_, ?_⟩)) | (intro _; simp [RV.flatP, CD.flatP, e1, List.length_map]; done)) ?_ | refine CallAt.mk _ (g26 ..) (by first | (intro h; cases h; done) | (intro _; repeat' (first | exact List.forall_mem_nil _ | trivial | refine List.forall_mem_cons.2 ⟨?_, ?_⟩)) | (intro _; simp [RV.flatP, CD.flatP, e1, List.length_map]; done)) ?_ | refine CallAtG.mk _ (fun _ => g26 ..) ?_ | refine CallDS.mk _ (by simp [RV.data]) (fun _ => g26 ..) (by first | (intro h; cases h; done) | (intro _; repeat' (first | exact List.forall_mem_nil _ | trivial | refine List.forall_mem_cons.2 ⟨?_, ?_⟩)) | (intro _; simp [RV.flatP, CD.flatP, e1, List.length_map]; done)) ?_); try simp (disch := omega) only [go_sem, seval, reduceCtorEq, ↓reduceIte, beq_dec, Int.toNat_natCast, IntKind.signed, IntKind.bits, e1, List.length_map]) | refine And.intro (fun hc => (?_ : AW _ _ _ _)) (fun hc => (?_ : AW _ _ _ _)) | simp (disch := omega) only [go_sem, seval, reduceCtorEq, ↓reduceIte, beq_dec, Int.toNat_natCast, IntKind.signed, IntKind.bits, e1, List.length_map] | (refine And.intro ?_ ?_; focus (first | (intros; omega) | (intros; simp_all; done))) | refine And.intro (?_ : CallAt _ _ _ _ _ _ _ _) ?_ | refine And.intro (?_ : CallAt _ _ _ _ _ _ _ _ ∧ _) ?_ | refine And.intro (?_ : AW _ _ _ _) ?_ | fail))
      · have e1 : ((g.links.length : Int) = 0) = False := by simp; exact fun h => h0 (by rw [h]; rfl)
        have e2 : (64 ≤ (g.links.length : Int)) = True := by
          have : 64 ≤ g.links.length := by
            rcases hn with h | h | h | h
            · exact absurd hf h
            · rw [hv] at h; cases h
            · exact absurd h h0
            · exact h
          simp; omega
        refine fn_walk code6 (by simp) ?_
        (repeat' (first | refine NextAt.mk (fun hc => ?_) (fun pre n v post hc hkey => ?_) | refine Sni.mk (fun hc => ?_) ?_ | refine Both.mk ?_ ?_ | refine AW_seq ?_ | refine AW_block ?_ | ((first | refine AW_reg ?_ | refine AW_cond ?_ | refine AW_skip ?_ | refine AW_exit ?_ | refine AW_ret ?_ | refine AW_regD (by kernel_rfl) ?_ | refine AW_regX (by kernel_rfl) ?_ | refine CallAtG.t (Eq.refl true) ?_ | refine CallAtG.f (Eq.refl false) ?_ | refine CallAt.mk _ (f10 ..) (by first | (intro h; cases h; done) | (intro _; repeat' (first | exact List.forall_mem_nil _ | trivial | refine List.forall_mem_cons.2 ⟨?_, ?_⟩)) | (intro _; simp [RV.flatP, CD.flatP, e1, e2, List.length_map]; done)) ?_ | refine CallAtG.mk _ (fun _ => f10 ..) ?_ | refine CallDS.mk _ (by simp [RV.data]) (fun _ => f10 ..) (by first | (intro h; cases h; done) | (intro _; repeat' (first | exact List.forall_mem_nil _ | trivial | refine List.forall_mem_cons.2 ⟨?_, ?_⟩)) | (intro _; simp [RV.flatP, CD.flatP, e1, e2, List.length_map]; done)) ?_ | refine CallAt.mk _ (g11 ..) (by first | (intro h; cases h; done) | (intro _; repeat' (first | exact List.forall_mem_nil _ | trivial | refine List.forall_mem_cons.2 ⟨?_, ?_⟩)) | (intro _; simp [RV.flatP, CD.flatP, e1, e2, List.length_map]; done)) ?_ | refine CallAtG.mk _ (fun _ => g11 ..) ?_ | refine CallDS.mk _ (by simp [RV.data]) (fun _ => g11 ..) (by first | (intro h; cases h; done) | (intro _; repeat' (first | exact List.forall_mem_nil _ | trivial | refine List.forall_mem_cons.2 ⟨?_, ?_⟩)) | (intro _; simp [RV.flatP, CD.flatP, e1, e2, List.length_map]; done)) ?_ | refine CallAt.mk _ (g26 ..) (by first | (intro h; cases h; done) | (intro _; repeat' (first | exact List.forall_mem_nil _ | trivial | refine List.forall_mem_cons.2 ⟨?_, ?_⟩)) | (intro _; simp [RV.flatP, CD.flatP, e1, e2, List.length_map]; done)) ?_ | refine CallAtG.mk _ (fun _ => g26 ..) ?_ | refine CallDS.mk _ (by simp [RV.data]) (fun _ => g26 ..) (by first | (intro h; cases h; done) | (intro _; repeat' (first | exact List.forall_mem_nil _ | trivial | refine List.forall_mem_cons.2 ⟨?_, ?_⟩)) | (intro _; simp [RV.flatP, CD.flatP, e1, e2, List.length_map]; done)) ?_); try simp (disch := omega) only [go_sem, seval, reduceCtorEq, ↓reduceIte, beq_dec, Int.toNat_natCast, IntKind.signed, IntKind.bits, e1, e2, List.length_map]) | refine And.intro (fun hc => (?_ : AW _ _ _ _)) (fun hc => (?_ : AW _ _ _ _)) | simp (disch := omega) only [go_sem, seval, reduceCtorEq, ↓reduceIte, beq_dec, Int.toNat_natCast, IntKind.signed, IntKind.bits, e1, e2, List.length_map] | (refine And.intro ?_ ?_; focus (first | (intros; omega) | (intros; simp_all; done))) | refine And.intro (?_ : CallAt _ _ _ _ _ _ _ _) ?_ | refine And.intro (?_ : CallAt _ _ _ _ _ _ _ _ ∧ _) ?_ | refine And.intro (?_ : AW _ _ _ _) ?_ | fail))
  · rw [show decide (g.obv.length ≤ 40 ∧ g.rev.length ≤ 40 ∧ g.links.length ≤ 70) = false from decide_eq_false hf] at g11
    refine fn_walk code6 (by simp) ?_
    (repeat' (first | refine NextAt.mk (fun hc => ?_) (fun pre n v post hc hkey => ?_) | refine Sni.mk (fun hc => ?_) ?_ | refine Both.mk ?_ ?_ | refine AW_seq ?_ | refine AW_block ?_ | ((first | refine AW_reg ?_ | refine AW_cond ?_ | refine AW_skip ?_ | refine AW_exit ?_ | refine AW_ret ?_ | refine AW_regD (by kernel_rfl) ?_ | refine AW_regX (by kernel_rfl) ?_ | refine CallAtG.t (Eq.refl true) ?_ | refine CallAtG.f (Eq.refl false) ?_ | refine CallAt.mk _ (f10 ..) (by first | (intro h; cases h; done) | (intro _; repeat' (first | exact List.forall_mem_nil _ | trivial | refine List.forall_mem_cons.2 ⟨?_, ?_⟩)) | (intro _; simp [RV.flatP, CD.flatP]; done)) ?_ | refine CallAtG.mk _ (fun _ => f10 ..) ?_ | refine CallDS.mk _ (by simp [RV.data]) (fun _ => f10 ..) (by first | (intro h; cases h; done) | (intro _; repeat' (first | exact List.forall_mem_nil _ | trivial | refine List.forall_mem_cons.2 ⟨?_, ?_⟩)) | (intro _; simp [RV.flatP, CD.flatP]; done)) ?_ | refine CallAt.mk _ (g11 ..) (by first | (intro h; cases h; done) | (intro _; repeat' (first | exact List.forall_mem_nil _ | trivial | refine List.forall_mem_cons.2 ⟨?_, ?_⟩)) | (intro _; simp [RV.flatP, CD.flatP]; done)) ?_ | refine CallAtG.mk _ (fun _ => g11 ..) ?_ | refine CallDS.mk _ (by simp [RV.data]) (fun _ => g11 ..) (by first | (intro h; cases h; done) | (intro _; repeat' (first | exact List.forall_mem_nil _ | trivial | refine List.forall_mem_cons.2 ⟨?_, ?_⟩)) | (intro _; simp [RV.flatP, CD.flatP]; done)) ?_); try simp (disch := omega) only [go_sem, seval, reduceCtorEq, ↓reduceIte, beq_dec, Int.toNat_natCast, IntKind.signed, IntKind.bits]) | refine And.intro (fun hc => (?_ : AW _ _ _ _)) (fun hc => (?_ : AW _ _ _ _)) | simp (disch := omega) only [go_sem, seval, reduceCtorEq, ↓reduceIte, beq_dec, Int.toNat_natCast, IntKind.signed, IntKind.bits] | (refine And.intro ?_ ?_; focus (first | (intros; omega) | (intros; simp_all; done))) | refine And.intro (?_ : CallAt _ _ _ _ _ _ _ _) ?_ | refine And.intro (?_ : CallAt _ _ _ _ _ _ _ _ ∧ _) ?_ | refine And.intro (?_ : AW _ _ _ _) ?_ | fail))
set_option maxHeartbeats 8000000 in
theorem f6v (g : Gr) (a b : Int) (hv : validG g = true) (h0 : 0 < g.links.length) (h64 : g.links.length < 64) : FnR Try.prog 6 [g.av, .I a, .I b] [.c (.B true)] := by
  have g11 := f11 g
  have g26 := f26 g
  have hsm := valid_small hv
  rw [show decide (g.obv.length ≤ 40 ∧ g.rev.length ≤ 40 ∧ g.links.length ≤ 70) = true from decide_eq_true (by omega)] at g11
  rw [hv] at g26
  have e1 : ((g.links.length : Int) = 0) = False := by simp; exact fun h => by rw [h] at h0; simp at h0
  have e2 : (64 ≤ (g.links.length : Int)) = False := by simp; omega
  have hlk := valid_lk hv
  have hm0 : nth g.links 0 ∈ g.links := nth_mem' _ _ h0
  have ho0 : 0 < g.obv.length := List.length_pos_of_mem (hlk _ hm0).2.2.1
  have hr0 : 0 < g.rev.length := List.length_pos_of_mem (hlk _ hm0).2.2.2
  have ga := f27 a g.obv.length (by omega) (by omega)
  have gb := f27 b g.rev.length (by omega) (by omega)
  obtain ⟨ia, hia⟩ : ∃ n : Nat, a % (g.obv.length : Int) = n := ⟨(a % (g.obv.length : Int)).toNat, by have := Int.emod_nonneg a (show (g.obv.length : Int) ≠ 0 by omega); omega⟩
  obtain ⟨ib, hib⟩ : ∃ n : Nat, b % (g.rev.length : Int) = n := ⟨(b % (g.rev.length : Int)).toNat, by have := Int.emod_nonneg b (show (g.rev.length : Int) ≠ 0 by omega); omega⟩
  have la : ia < g.obv.length := by have := Int.emod_lt_of_pos a (show 0 < (g.obv.length : Int) by omega); omega
  have lb : ib < g.rev.length := by have := Int.emod_lt_of_pos b (show 0 < (g.rev.length : Int) by omega); omega
  rw [hia] at ga
  rw [hib] at gb
  have hid := idN_new (valid_ids hv) g.links.length (Nat.le_refl _)
  rw [List.take_length] at hid
  have mo : nth g.obv ia ∈ g.obv := nth_mem' _ _ la
  have mr : nth g.rev ib ∈ g.rev := nth_mem' _ _ lb
  have hva := valid_add (k := ⟨idN g.links, nth g.obv ia, nth g.rev ib⟩) hv mo mr hid.2.2 ⟨hid.1, by simp only []; omega⟩ h64
  have hma := mdI_add (k := ⟨idN g.links, nth g.obv ia, nth g.rev ib⟩) hv mo mr
  have hch := chG_add (k := ⟨idN g.links, nth g.obv ia, nth g.rev ib⟩) (g := g) mo mr
  have g28 := f28 (g.links ++ [⟨idN g.links, nth g.obv ia, nth g.rev ib⟩]) (by simp; omega)
  rw [hma] at g28
  have g17 := f17 g ⟨0, nth g.obv ia⟩ ⟨1, nth g.rev ib⟩
  have hjn : awayE g ⟨0, nth g.obv ia⟩ ⟨1, nth g.rev ib⟩ = 0 ↔ Jn g.links ⟨0, nth g.obv ia⟩ ⟨1, nth g.rev ib⟩ := by
    unfold awayE
    rw [hv, if_pos rfl]
    have m1 : (⟨0, nth g.obv ia⟩ : Die) ∈ diesG g := by unfold diesG; simp [mo]
    have m2 : (⟨1, nth g.rev ib⟩ : Die) ∈ diesG g := by unfold diesG; simp [mr]
    constructor
    · intro h
      by_cases hj : (dst g.links ⟨0, nth g.obv ia⟩ ⟨1, nth g.rev ib⟩).isSome = true
      · exact hj
      · rw [if_neg (fun h' => hj h'.2.2)] at h; omega
    · intro h
      rw [if_pos ⟨m1, m2, h⟩]
  rw [show decide (awayE g ⟨0, nth g.obv ia⟩ ⟨1, nth g.rev ib⟩ = 0) = decide (Jn g.links ⟨0, nth g.obv ia⟩ ⟨1, nth g.rev ib⟩) from decide_eq_decide.2 hjn] at g17
  have g20 := f20v g hv
  have g20h := f20v _ hva
  have g21 := f21v g hv
  have g21h := f21v _ hva
  have hc1 := chG_len hv
  have hc2 := chG_len hva
  have hll : (insL g.links ⟨idN g.links, nth g.obv ia, nth g.rev ib⟩).length = g.links.length + 1 := insL_len _ _
  have hle : (addG g ⟨idN g.links, nth g.obv ia, nth g.rev ib⟩).links.length = g.links.length + 1 := hll
  rw [hle] at g21h
  have ho' : (addG g ⟨idN g.links, nth g.obv ia, nth g.rev ib⟩).obv = g.obv := rfl
  have hr' : (addG g ⟨idN g.links, nth g.obv ia, nth g.rev ib⟩).rev = g.rev := rfl
  rw [ho', hr'] at g21h
  have hcs : (Lk.cd ⟨idN g.links, nth g.obv ia, nth g.rev ib⟩) = [CD.I (idN g.links), CD.I (nth g.obv ia), CD.I (nth g.rev ib)] := rfl
  have hch1 : Jn g.links ⟨0, nth g.obv ia⟩ ⟨1, nth g.rev ib⟩ → _ := hch.1
  have hch2 : ¬ Jn g.links ⟨0, nth g.obv ia⟩ ⟨1, nth g.rev ib⟩ → _ := hch.2
  clear hch hll hle ho' hr' hma
  generalize addG g ⟨idN g.links, nth g.obv ia, nth g.rev ib⟩ = h at *
  refine fn_walk code6 (by simp) ?_
  (repeat' (first | refine NextAt.mk (fun hc => ?_) (fun pre n v post hc hkey => ?_) | refine Sni.mk (fun hc => ?_) ?_ | refine Both.mk ?_ ?_ | refine AW_seq ?_ | refine AW_block ?_ | ((first | refine AW_reg ?_ | refine AW_cond ?_ | refine AW_skip ?_ | refine AW_exit ?_ | refine AW_ret ?_ | refine AW_regD (by kernel_rfl) ?_ | refine AW_regX (by kernel_rfl) ?_ | refine CallAtG.t (Eq.refl true) ?_ | refine CallAtG.f (Eq.refl false) ?_ | refine CallAt.mk _ (f10 ..) (by first | (intro h; cases h; done) | (intro _; repeat' (first | exact List.forall_mem_nil _ | trivial | refine List.forall_mem_cons.2 ⟨?_, ?_⟩)) | (intro _; simp [RV.flatP, CD.flatP, e1, e2, List.length_map, getD_map (fun x : Int => [CD.I x])]; done)) ?_ | refine CallAtG.mk _ (fun _ => f10 ..) ?_ | refine CallDS.mk _ (by simp [RV.data]) (fun _ => f10 ..) (by first | (intro h; cases h; done) | (intro _; repeat' (first | exact List.forall_mem_nil _ | trivial | refine List.forall_mem_cons.2 ⟨?_, ?_⟩)) | (intro _; simp [RV.flatP, CD.flatP, e1, e2, List.length_map, getD_map (fun x : Int => [CD.I x])]; done)) ?_ | refine CallAt.mk _ (g11 ..) (by first | (intro h; cases h; done) | (intro _; repeat' (first | exact List.forall_mem_nil _ | trivial | refine List.forall_mem_cons.2 ⟨?_, ?_⟩)) | (intro _; simp [RV.flatP, CD.flatP, e1, e2, List.length_map, getD_map (fun x : Int => [CD.I x])]; done)) ?_ | refine CallAtG.mk _ (fun _ => g11 ..) ?_ | refine CallDS.mk _ (by simp [RV.data]) (fun _ => g11 ..) (by first | (intro h; cases h; done) | (intro _; repeat' (first | exact List.forall_mem_nil _ | trivial | refine List.forall_mem_cons.2 ⟨?_, ?_⟩)) | (intro _; simp [RV.flatP, CD.flatP, e1, e2, List.length_map, getD_map (fun x : Int => [CD.I x])]; done)) ?_ | refine CallAt.mk _ (g26 ..) (by first | (intro h; cases h; done) | (intro _; repeat' (first | exact List.forall_mem_nil _ | trivial | refine List.forall_mem_cons.2 ⟨?_, ?_⟩)) | (intro _; simp [RV.flatP, CD.flatP, e1, e2, List.length_map, getD_map (fun x : Int => [CD.I x])]; done)) ?_ | refine CallAtG.mk _ (fun _ => g26 ..) ?_ | refine CallDS.mk _ (by simp [RV.data]) (fun _ => g26 ..) (by first | (intro h; cases h; done) | (intro _; repeat' (first | exact List.forall_mem_nil _ | trivial | refine List.forall_mem_cons.2 ⟨?_, ?_⟩)) | (intro _; simp [RV.flatP, CD.flatP, e1, e2, List.length_map, getD_map (fun x : Int => [CD.I x])]; done)) ?_ | refine CallAt.mk _ (ga ..) (by first | (intro h; cases h; done) | (intro _; repeat' (first | exact List.forall_mem_nil _ | trivial | refine List.forall_mem_cons.2 ⟨?_, ?_⟩)) | (intro _; simp [RV.flatP, CD.flatP, e1, e2, List.length_map, getD_map (fun x : Int => [CD.I x])]; done)) ?_ | refine CallAtG.mk _ (fun _ => ga ..) ?_ | refine CallDS.mk _ (by simp [RV.data]) (fun _ => ga ..) (by first | (intro h; cases h; done) | (intro _; repeat' (first | exact List.forall_mem_nil _ | trivial | refine List.forall_mem_cons.2 ⟨?_, ?_⟩)) | (intro _; simp [RV.flatP, CD.flatP, e1, e2, List.length_map, getD_map (fun x : Int => [CD.I x])]; done)) ?_ | refine CallAt.mk _ (gb ..) (by first | (intro h; cases h; done) | (intro _; repeat' (first | exact List.forall_mem_nil _ | trivial | refine List.forall_mem_cons.2 ⟨?_, ?_⟩)) | (intro _; simp [RV.flatP, CD.flatP, e1, e2, List.length_map, getD_map (fun x : Int => [CD.I x])]; done)) ?_ | refine CallAtG.mk _ (fun _ => gb ..) ?_ | refine CallDS.mk _ (by simp [RV.data]) (fun _ => gb ..) (by first | (intro h; cases h; done) | (intro _; repeat' (first | exact List.forall_mem_nil _ | trivial | refine List.forall_mem_cons.2 ⟨?_, ?_⟩)) | (intro _; simp [RV.flatP, CD.flatP, e1, e2, List.length_map, getD_map (fun x : Int => [CD.I x])]; done)) ?_); try simp (disch := omega) only [go_sem, seval, reduceCtorEq, ↓reduceIte, beq_dec, Int.toNat_natCast, IntKind.signed, IntKind.bits, e1, e2, List.length_map, getD_map (fun x : Int => [CD.I x])]) | refine And.intro (fun hc => (?_ : AW _ _ _ _)) (fun hc => (?_ : AW _ _ _ _)) | simp (disch := omega) only [go_sem, seval, reduceCtorEq, ↓reduceIte, beq_dec, Int.toNat_natCast, IntKind.signed, IntKind.bits, e1, e2, List.length_map, getD_map (fun x : Int => [CD.I x])] | (refine And.intro ?_ ?_; focus (first | (intros; omega) | (intros; simp_all; done))) | refine And.intro (?_ : CallAt _ _ _ _ _ _ _ _) ?_ | refine And.intro (?_ : CallAt _ _ _ _ _ _ _ _ ∧ _) ?_ | refine And.intro (?_ : AW _ _ _ _) ?_ | fail))
  refine AW_loopK [3, 7, 8] [9, 10, 64, 65, 66, 67, 68, 69, 70, 71, 72, 73, 74, 75, 76, 77, 78, 79, 80] (fun i : Nat => i ≤ g.links.length) (fun i => [(10, .I i), (9, .I (idN (g.links.take i)))]) (fun _ => []) (fun i => g.links.length - i) 0 (by omega) ?_ ?_
  · simp (disch := omega) only [go_sem, seval, reduceCtorEq, ↓reduceIte, beq_dec, Int.toNat_natCast, IntKind.signed, IntKind.bits, Int.natCast_zero, List.take_zero, idN, List.foldl_nil]
  · intro i hi
    rcases Nat.lt_or_ge i g.links.length with hil | hil
    · have s1 := idN_succ g.links i hil
      have s2 := idN_new (valid_ids hv) i hi
      (repeat' (first | refine NextAt.mk (fun hc => ?_) (fun pre n v post hc hkey => ?_) | refine Sni.mk (fun hc => ?_) ?_ | refine Both.mk ?_ ?_ | refine AW_seq ?_ | refine AW_block ?_ | ((first | refine AW_reg ?_ | refine AW_cond ?_ | refine AW_skip ?_ | refine AW_exit ?_ | refine AW_ret ?_ | refine AW_regD (by kernel_rfl) ?_ | refine AW_regX (by kernel_rfl) ?_ | refine CallAtG.t (Eq.refl true) ?_ | refine CallAtG.f (Eq.refl false) ?_); try simp (disch := omega) only [go_sem, seval, reduceCtorEq, ↓reduceIte, beq_dec, Int.toNat_natCast, IntKind.signed, IntKind.bits, getD_map Lk.cd, Lk.cd, List.length_map]) | refine And.intro (fun hc => (?_ : AW _ _ _ _)) (fun hc => (?_ : AW _ _ _ _)) | simp (disch := omega) only [go_sem, seval, reduceCtorEq, ↓reduceIte, beq_dec, Int.toNat_natCast, IntKind.signed, IntKind.bits, getD_map Lk.cd, Lk.cd, List.length_map] | (refine And.intro ?_ ?_; focus (first | (intros; omega) | (intros; simp_all; done))) | refine And.intro (?_ : CallAt _ _ _ _ _ _ _ _) ?_ | refine And.intro (?_ : CallAt _ _ _ _ _ _ _ _ ∧ _) ?_ | refine And.intro (?_ : AW _ _ _ _) ?_ | fail))
      · rw [if_pos (by assumption)] at s1
        refine .mk (i + 1) (by omega) (by omega) ?_
        rw [s1]
        simp (disch := omega) only [go_sem, seval, reduceCtorEq, ↓reduceIte, beq_dec, Int.toNat_natCast, IntKind.signed, IntKind.bits, Int.natCast_add, Int.natCast_one]
      · rw [if_neg (by assumption)] at s1
        refine .mk (i + 1) (by omega) (by omega) ?_
        rw [s1]
        simp (disch := omega) only [go_sem, seval, reduceCtorEq, ↓reduceIte, beq_dec, Int.toNat_natCast, IntKind.signed, IntKind.bits, Int.natCast_add, Int.natCast_one]
      · exfalso; omega
    · have hie : i = g.links.length := by omega
      subst hie
      rw [List.take_length]
      (repeat' (first | (with_reducible refine hold6 ?_; try simp (disch := omega) only [go_sem, seval, reduceCtorEq, ↓reduceIte, beq_dec, Int.toNat_natCast, IntKind.signed, IntKind.bits, List.length_map]) | refine NextAt.mk (fun hc => ?_) (fun pre n v post hc hkey => ?_) | refine Sni.mk (fun hc => ?_) ?_ | refine Both.mk ?_ ?_ | refine AW_seq ?_ | refine AW_block ?_ | ((first | refine AW_reg ?_ | refine AW_cond ?_ | refine AW_skip ?_ | refine AW_exit ?_ | refine AW_ret ?_ | refine AW_regD (by kernel_rfl) ?_ | refine AW_regX (by kernel_rfl) ?_ | refine CallAtG.t (Eq.refl true) ?_ | refine CallAtG.f (Eq.refl false) ?_); try simp (disch := omega) only [go_sem, seval, reduceCtorEq, ↓reduceIte, beq_dec, Int.toNat_natCast, IntKind.signed, IntKind.bits, List.length_map]) | refine And.intro (fun hc => (?_ : AW _ _ _ _)) (fun hc => (?_ : AW _ _ _ _)) | simp (disch := omega) only [go_sem, seval, reduceCtorEq, ↓reduceIte, beq_dec, Int.toNat_natCast, IntKind.signed, IntKind.bits, List.length_map] | (refine And.intro ?_ ?_; focus (first | (intros; omega) | (intros; simp_all; done))) | refine And.intro (?_ : CallAt _ _ _ _ _ _ _ _) ?_ | refine And.intro (?_ : CallAt _ _ _ _ _ _ _ _ ∧ _) ?_ | refine And.intro (?_ : AW _ _ _ _) ?_ | fail))
      · exfalso; omega
      simp only [LL, List.map_append, List.map_cons, List.map_nil, hcs] at g28
      refine ⟨?_⟩
      (repeat' (first | refine NextAt.mk (fun hc => ?_) (fun pre n v post hc hkey => ?_) | refine Sni.mk (fun hc => ?_) ?_ | refine Both.mk ?_ ?_ | refine AW_seq ?_ | refine AW_block ?_ | ((first | refine AW_reg ?_ | refine AW_cond ?_ | refine AW_skip ?_ | refine AW_exit ?_ | refine AW_ret ?_ | refine AW_regD (by kernel_rfl) ?_ | refine AW_regX (by kernel_rfl) ?_ | refine CallAtG.t (Eq.refl true) ?_ | refine CallAtG.f (Eq.refl false) ?_); try simp (disch := omega) only [go_sem, seval, reduceCtorEq, ↓reduceIte, beq_dec, Int.toNat_natCast, IntKind.signed, IntKind.bits, List.length_map, List.length_append, List.length_cons, List.length_nil, maxLen]) | refine And.intro (fun hc => (?_ : AW _ _ _ _)) (fun hc => (?_ : AW _ _ _ _)) | simp (disch := omega) only [go_sem, seval, reduceCtorEq, ↓reduceIte, beq_dec, Int.toNat_natCast, IntKind.signed, IntKind.bits, List.length_map, List.length_append, List.length_cons, List.length_nil, maxLen] | (refine And.intro ?_ ?_; focus (first | (intros; omega) | (intros; simp_all; done))) | refine And.intro (?_ : CallAt _ _ _ _ _ _ _ _) ?_ | refine And.intro (?_ : CallAt _ _ _ _ _ _ _ _ ∧ _) ?_ | refine And.intro (?_ : AW _ _ _ _) ?_ | fail))
      · refine CallAt.frz [81] ?_
        (repeat' (first | refine NextAt.mk (fun hc => ?_) (fun pre n v post hc hkey => ?_) | refine Sni.mk (fun hc => ?_) ?_ | refine Both.mk ?_ ?_ | refine AW_seq ?_ | refine AW_block ?_ | ((first | refine AW_reg ?_ | refine AW_cond ?_ | refine AW_skip ?_ | refine AW_exit ?_ | refine AW_ret ?_ | refine AW_regD (by kernel_rfl) ?_ | refine AW_regX (by kernel_rfl) ?_ | refine CallAtG.t (Eq.refl true) ?_ | refine CallAtG.f (Eq.refl false) ?_ | refine CallAt.mk _ (g28 ..) (by first | (intro h; cases h; done) | (intro _; repeat' (first | exact List.forall_mem_nil _ | trivial | refine List.forall_mem_cons.2 ⟨?_, ?_⟩)) | (intro _; simp [RV.flatP, CD.flatP, List.length_map, inK]; done)) ?_ | refine CallAtG.mk _ (fun _ => g28 ..) ?_ | refine CallDS.mk _ (by simp [RV.data]) (fun _ => g28 ..) (by first | (intro h; cases h; done) | (intro _; repeat' (first | exact List.forall_mem_nil _ | trivial | refine List.forall_mem_cons.2 ⟨?_, ?_⟩)) | (intro _; simp [RV.flatP, CD.flatP, List.length_map, inK]; done)) ?_ | refine CallAt.mk _ (g17 ..) (by first | (intro h; cases h; done) | (intro _; repeat' (first | exact List.forall_mem_nil _ | trivial | refine List.forall_mem_cons.2 ⟨?_, ?_⟩)) | (intro _; simp [RV.flatP, CD.flatP, List.length_map, inK]; done)) ?_ | refine CallAtG.mk _ (fun _ => g17 ..) ?_ | refine CallDS.mk _ (by simp [RV.data]) (fun _ => g17 ..) (by first | (intro h; cases h; done) | (intro _; repeat' (first | exact List.forall_mem_nil _ | trivial | refine List.forall_mem_cons.2 ⟨?_, ?_⟩)) | (intro _; simp [RV.flatP, CD.flatP, List.length_map, inK]; done)) ?_ | refine CallAt.mk _ (g20 ..) (by first | (intro h; cases h; done) | (intro _; repeat' (first | exact List.forall_mem_nil _ | trivial | refine List.forall_mem_cons.2 ⟨?_, ?_⟩)) | (intro _; simp [RV.flatP, CD.flatP, List.length_map, inK]; done)) ?_ | refine CallAtG.mk _ (fun _ => g20 ..) ?_ | refine CallDS.mk _ (by simp [RV.data]) (fun _ => g20 ..) (by first | (intro h; cases h; done) | (intro _; repeat' (first | exact List.forall_mem_nil _ | trivial | refine List.forall_mem_cons.2 ⟨?_, ?_⟩)) | (intro _; simp [RV.flatP, CD.flatP, List.length_map, inK]; done)) ?_ | refine CallAt.mk _ (g20h ..) (by first | (intro h; cases h; done) | (intro _; repeat' (first | exact List.forall_mem_nil _ | trivial | refine List.forall_mem_cons.2 ⟨?_, ?_⟩)) | (intro _; simp [RV.flatP, CD.flatP, List.length_map, inK]; done)) ?_ | refine CallAtG.mk _ (fun _ => g20h ..) ?_ | refine CallDS.mk _ (by simp [RV.data]) (fun _ => g20h ..) (by first | (intro h; cases h; done) | (intro _; repeat' (first | exact List.forall_mem_nil _ | trivial | refine List.forall_mem_cons.2 ⟨?_, ?_⟩)) | (intro _; simp [RV.flatP, CD.flatP, List.length_map, inK]; done)) ?_ | refine CallAt.mk _ (g21 ..) (by first | (intro h; cases h; done) | (intro _; repeat' (first | exact List.forall_mem_nil _ | trivial | refine List.forall_mem_cons.2 ⟨?_, ?_⟩)) | (intro _; simp [RV.flatP, CD.flatP, List.length_map, inK]; done)) ?_ | refine CallAtG.mk _ (fun _ => g21 ..) ?_ | refine CallDS.mk _ (by simp [RV.data]) (fun _ => g21 ..) (by first | (intro h; cases h; done) | (intro _; repeat' (first | exact List.forall_mem_nil _ | trivial | refine List.forall_mem_cons.2 ⟨?_, ?_⟩)) | (intro _; simp [RV.flatP, CD.flatP, List.length_map, inK]; done)) ?_ | refine CallAt.mk _ (g21h ..) (by first | (intro h; cases h; done) | (intro _; repeat' (first | exact List.forall_mem_nil _ | trivial | refine List.forall_mem_cons.2 ⟨?_, ?_⟩)) | (intro _; simp [RV.flatP, CD.flatP, List.length_map, inK]; done)) ?_ | refine CallAtG.mk _ (fun _ => g21h ..) ?_ | refine CallDS.mk _ (by simp [RV.data]) (fun _ => g21h ..) (by first | (intro h; cases h; done) | (intro _; repeat' (first | exact List.forall_mem_nil _ | trivial | refine List.forall_mem_cons.2 ⟨?_, ?_⟩)) | (intro _; simp [RV.flatP, CD.flatP, List.length_map, inK]; done)) ?_); try simp (disch := omega) only [go_sem, seval, reduceCtorEq, ↓reduceIte, beq_dec, Int.toNat_natCast, IntKind.signed, IntKind.bits, List.length_map, inK]) | refine And.intro (fun hc => (?_ : AW _ _ _ _)) (fun hc => (?_ : AW _ _ _ _)) | simp (disch := omega) only [go_sem, seval, reduceCtorEq, ↓reduceIte, beq_dec, Int.toNat_natCast, IntKind.signed, IntKind.bits, List.length_map, inK] | (refine And.intro ?_ ?_; focus (first | (intros; omega) | (intros; simp_all; done))) | refine And.intro (?_ : CallAt _ _ _ _ _ _ _ _) ?_ | refine And.intro (?_ : CallAt _ _ _ _ _ _ _ _ ∧ _) ?_ | refine And.intro (?_ : AW _ _ _ _) ?_ | fail))
        · have := hch1 hc
          constructor <;> omega
        all_goals first | omega | (have := hch2 hc; first | omega | (constructor <;> omega))
theorem f6 (g : Gr) (a b : Int) : FnR Try.prog 6 [g.av, .I a, .I b] [.c (.B true)] := by
  by_cases hn : ¬ (g.obv.length ≤ 40 ∧ g.rev.length ≤ 40 ∧ g.links.length ≤ 70) ∨ validG g = false ∨ g.links.length = 0 ∨ 64 ≤ g.links.length
  · exact f6e g a b hn
  · refine f6v g a b ?_ (Nat.pos_of_ne_zero fun h => hn (.inr (.inr (.inl h)))) (Nat.lt_of_not_le fun h => hn (.inr (.inr (.inr h))))
    cases hv : validG g with
    | true => rfl
    | false => exact absurd (.inr (.inl hv)) hn
end Go.Proofs.Ytlomngideedobaa

