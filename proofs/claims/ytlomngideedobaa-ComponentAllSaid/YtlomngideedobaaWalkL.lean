/-
  Lemmas for the proof: no statement of its own.
-/
import Derived.Test.YtlomngideedobaaPlainD
import Derived.KernelRfl
set_option linter.unusedVariables false
set_option linter.unusedSimpArgs false
-- P p_14.txt
open Go Go.AL Go.RowKit
namespace Go.Proofs.Ytlomngideedobaa
set_option maxRecDepth 20000
/- coinage/coinagelaw14.ComponentAll -/
abbrev c8_1 : AC := .reg [⟨(some 1), .box 25 (some 3) (.t 0), none⟩,
  ⟨(some 2), .mv (.k (.B false)), none⟩] false
abbrev c8_2 : AC := .reg [⟨(some 14), .call 10 [], none⟩,
  ⟨(some 15), .not (.t 14), none⟩,
  ⟨(some 16), .mv (.t 15), none⟩,
  ⟨(some 17), .ld (some 3) (.t 1), (some (16, false))⟩,
  ⟨(some 18), .call 11 [(.t 17)], (some (16, false))⟩,
  ⟨(some 19), .not (.t 18), (some (16, false))⟩,
  ⟨(some 20), .pick (.t 16) (.k (.B true)) (.t 19), none⟩] false
abbrev c8_3 : AC := .reg [⟨(some 21), .call 10 [], none⟩,
  ⟨(some 2), .mv (.t 21), none⟩] false
abbrev c8_4 : AC := .seq c8_3 .ret
abbrev c8_5 : AC := .cond (.t 20) c8_4 .skip
abbrev c8_6 : AC := .seq c8_2 c8_5
abbrev c8_7 : AC := .reg [⟨(some 23), .ld (some 3) (.t 1), none⟩,
  ⟨(some 24), .call 20 [(.t 23)], none⟩,
  ⟨(some 22), .mv (.t 24), none⟩,
  ⟨(some 25), .ext (.t 22) 0, none⟩,
  ⟨(some 26), .ext (.t 22) 1, none⟩,
  ⟨(some 3), .mv (.t 25), none⟩,
  ⟨(some 4), .mv (.t 26), none⟩] false
abbrev c8_8 : AC := .reg [⟨(some 27), .mv (.t 4), none⟩,
  ⟨(some 28), .bin .neq (.t 27) (.k (.I 0)), none⟩] false
abbrev c8_9 : AC := .reg [⟨(some 29), .mv (.t 3), none⟩,
  ⟨(some 30), .len (.t 29), none⟩,
  ⟨(some 31), .bin .eql (.t 30) (.k (.I 0)), none⟩,
  ⟨(some 32), .mv (.t 31), none⟩,
  ⟨(some 33), .ld (some 3) (.t 1), (some (32, true))⟩,
  ⟨(some 34), .call 32 [(.t 33)], (some (32, true))⟩,
  ⟨(some 35), .not (.t 34), (some (32, true))⟩,
  ⟨(some 36), .pick (.t 32) (.t 35) (.k (.B false)), none⟩,
  ⟨(some 2), .mv (.t 36), none⟩] false
abbrev c8_10 : AC := .seq c8_9 .ret
abbrev c8_11 : AC := .cond (.t 28) c8_10 .skip
abbrev c8_12 : AC := .seq c8_8 c8_11
abbrev c8_13 : AC := .reg [⟨(some 5), .mv (.k (.I 0)), none⟩,
  ⟨(some 6), .mv (.k (.I 0)), none⟩,
  ⟨(some 7), .mv (.k (.I 0)), none⟩] false
abbrev c8_14 : AC := .reg [⟨(some 8), .mv (.k (.I 0)), none⟩] false
abbrev c8_15 : AC := .reg [⟨(some 37), .mv (.t 8), none⟩,
  ⟨(some 38), .mv (.t 3), none⟩,
  ⟨(some 39), .len (.t 38), none⟩,
  ⟨(some 40), .bin .lss (.t 37) (.t 39), none⟩] false
abbrev c8_16 : AC := .cond (.t 40) .skip (.exit 0)
abbrev c8_17 : AC := .seq c8_15 c8_16
abbrev c8_18 : AC := .reg [⟨(some 44), .ld (some 3) (.t 1), none⟩,
  ⟨(some 45), .mv (.t 8), none⟩,
  ⟨(some 46), .call 29 [(.t 44), (.t 45)], none⟩,
  ⟨(some 43), .mv (.t 46), none⟩,
  ⟨(some 47), .ext (.t 43) 0, none⟩,
  ⟨(some 48), .ext (.t 43) 1, none⟩,
  ⟨(some 9), .alloc 25 [(.c .nil), (.c .nil), (.c .nil)], none⟩,
  ⟨none, .st (some 3) (.t 9) (.t 47), none⟩,
  ⟨(some 10), .mv (.t 48), none⟩] false
abbrev c8_19 : AC := .regD [(⟨(some 49), .mv (.t 10), none⟩, [10]),
  (⟨(some 50), .bin .neq (.t 49) (.k (.I 0)), none⟩, [49]),
  (⟨(some 51), .mv (.t 50), none⟩, [50]),
  (⟨(some 52), .mv (.t 3), (some (51, false))⟩, [3, 51]),
  (⟨(some 53), .mv (.t 8), (some (51, false))⟩, [8, 51]),
  (⟨(some 54), .iad 1 (.t 52) (.t 53), (some (51, false))⟩, [52, 53, 51]),
  (⟨(some 55), .ld none (.t 54), (some (51, false))⟩, [54, 51]),
  (⟨(some 56), .len (.t 55), (some (51, false))⟩, [55, 51]),
  (⟨(some 57), .fad 0 (.t 9), (some (51, false))⟩, [9, 51]),
  (⟨(some 58), .ld none (.t 57), (some (51, false))⟩, [57, 51]),
  (⟨(some 59), .len (.t 58), (some (51, false))⟩, [58, 51]),
  (⟨(some 60), .fad 1 (.t 9), (some (51, false))⟩, [9, 51]),
  (⟨(some 61), .ld none (.t 60), (some (51, false))⟩, [60, 51]),
  (⟨(some 62), .len (.t 61), (some (51, false))⟩, [61, 51]),
  (⟨(some 63), .bin .add (.t 59) (.t 62), (some (51, false))⟩, [59, 62, 51]),
  (⟨(some 64), .bin .neq (.t 56) (.t 63), (some (51, false))⟩, [56, 63, 51]),
  (⟨(some 65), .pick (.t 51) (.k (.B true)) (.t 64), none⟩, [51, 64]),
  (⟨(some 66), .mv (.t 65), none⟩, [65]),
  (⟨(some 67), .mv (.t 3), (some (66, false))⟩, [3, 66]),
  (⟨(some 68), .mv (.t 8), (some (66, false))⟩, [8, 66]),
  (⟨(some 69), .iad 1 (.t 67) (.t 68), (some (66, false))⟩, [67, 68, 66]),
  (⟨(some 70), .ld none (.t 69), (some (66, false))⟩, [69, 66]),
  (⟨(some 71), .len (.t 70), (some (66, false))⟩, [70, 66]),
  (⟨(some 72), .bin .lss (.t 71) (.k (.I 2)), (some (66, false))⟩, [71, 66]),
  (⟨(some 73), .pick (.t 66) (.k (.B true)) (.t 72), none⟩, [66, 72])]
abbrev c8_20 : AC := .reg [⟨(some 2), .mv (.k (.B false)), none⟩] false
abbrev c8_21 : AC := .seq c8_20 .ret
abbrev c8_22 : AC := .cond (.t 73) c8_21 .skip
abbrev c8_23 : AC := .seq c8_19 c8_22
abbrev c8_24 : AC := .reg [⟨(some 11), .mv (.k (.I 0)), none⟩] false
abbrev c8_25 : AC := .reg [⟨(some 74), .mv (.t 11), none⟩,
  ⟨(some 75), .mv (.t 3), none⟩,
  ⟨(some 76), .mv (.t 8), none⟩,
  ⟨(some 77), .iad 1 (.t 75) (.t 76), none⟩,
  ⟨(some 78), .ld none (.t 77), none⟩,
  ⟨(some 79), .len (.t 78), none⟩,
  ⟨(some 80), .bin .lss (.t 74) (.t 79), none⟩] false
abbrev c8_26 : AC := .cond (.t 80) .skip (.exit 2)
abbrev c8_27 : AC := .seq c8_25 c8_26
abbrev c8_28 : AC := .regD [(⟨(some 83), .ld (some 3) (.t 9), none⟩, [9]),
  (⟨(some 84), .mv (.t 3), none⟩, [3]),
  (⟨(some 85), .mv (.t 8), none⟩, [8]),
  (⟨(some 86), .iad 1 (.t 84) (.t 85), none⟩, [84, 85]),
  (⟨(some 87), .ld none (.t 86), none⟩, [86]),
  (⟨(some 88), .iad 2 (.t 87) (.k (.I 0)), none⟩, [87]),
  (⟨(some 89), .ld (some 2) (.t 88), none⟩, [88]),
  (⟨(some 90), .mv (.t 3), none⟩, [3]),
  (⟨(some 91), .mv (.t 8), none⟩, [8]),
  (⟨(some 92), .iad 1 (.t 90) (.t 91), none⟩, [90, 91]),
  (⟨(some 93), .ld none (.t 92), none⟩, [92]),
  (⟨(some 94), .mv (.t 11), none⟩, [11]),
  (⟨(some 95), .iad 2 (.t 93) (.t 94), none⟩, [93, 94]),
  (⟨(some 96), .ld (some 2) (.t 95), none⟩, [95]),
  (⟨(some 97), .call 17 [(.t 83), (.t 89), (.t 96)], none⟩, [83, 89, 96]),
  (⟨(some 98), .not (.t 97), none⟩, [97])]
abbrev c8_29 : AC := .reg [⟨(some 2), .mv (.k (.B false)), none⟩] false
abbrev c8_30 : AC := .seq c8_29 .ret
abbrev c8_31 : AC := .cond (.t 98) c8_30 .skip
abbrev c8_32 : AC := .seq c8_28 c8_31
abbrev c8_33 : AC := .block 3 c8_32
abbrev c8_34 : AC := .reg [⟨(some 81), .mv (.t 11), none⟩,
  ⟨(some 82), .bin .add (.t 81) (.k (.I 1)), none⟩,
  ⟨(some 11), .mv (.t 82), none⟩] false
abbrev c8_35 : AC := .seq c8_33 c8_34
abbrev c8_36 : AC := .seq c8_27 c8_35
abbrev c8_37 : AC := .loop c8_36
abbrev c8_38 : AC := .block 2 c8_37
abbrev c8_39 : AC := .seq c8_24 c8_38
abbrev c8_40 : AC := .reg [⟨(some 99), .mv (.t 5), none⟩,
  ⟨(some 100), .fad 0 (.t 9), none⟩,
  ⟨(some 101), .ld none (.t 100), none⟩,
  ⟨(some 102), .len (.t 101), none⟩,
  ⟨(some 103), .bin .add (.t 99) (.t 102), none⟩,
  ⟨(some 5), .mv (.t 103), none⟩] false
abbrev c8_41 : AC := .reg [⟨(some 104), .mv (.t 6), none⟩,
  ⟨(some 105), .fad 1 (.t 9), none⟩,
  ⟨(some 106), .ld none (.t 105), none⟩,
  ⟨(some 107), .len (.t 106), none⟩,
  ⟨(some 108), .bin .add (.t 104) (.t 107), none⟩,
  ⟨(some 6), .mv (.t 108), none⟩] false
abbrev c8_42 : AC := .reg [⟨(some 109), .mv (.t 7), none⟩,
  ⟨(some 110), .fad 2 (.t 9), none⟩,
  ⟨(some 111), .ld none (.t 110), none⟩,
  ⟨(some 112), .len (.t 111), none⟩,
  ⟨(some 113), .bin .add (.t 109) (.t 112), none⟩,
  ⟨(some 7), .mv (.t 113), none⟩] false
abbrev c8_43 : AC := .seq c8_41 c8_42
abbrev c8_44 : AC := .seq c8_40 c8_43
abbrev c8_45 : AC := .seq c8_39 c8_44
abbrev c8_46 : AC := .seq c8_23 c8_45
abbrev c8_47 : AC := .seq c8_18 c8_46
abbrev c8_48 : AC := .block 1 c8_47
abbrev c8_49 : AC := .reg [⟨(some 41), .mv (.t 8), none⟩,
  ⟨(some 42), .bin .add (.t 41) (.k (.I 1)), none⟩,
  ⟨(some 8), .mv (.t 42), none⟩] false
abbrev c8_50 : AC := .seq c8_48 c8_49
abbrev c8_51 : AC := .seq c8_17 c8_50
abbrev c8_52 : AC := .loop c8_51
abbrev c8_53 : AC := .block 0 c8_52
abbrev c8_54 : AC := .seq c8_14 c8_53
abbrev c8_55 : AC := .reg [⟨(some 115), .ld (some 3) (.t 1), none⟩,
  ⟨(some 116), .mv (.t 3), none⟩,
  ⟨(some 117), .len (.t 116), none⟩,
  ⟨(some 118), .call 29 [(.t 115), (.t 117)], none⟩,
  ⟨(some 114), .mv (.t 118), none⟩,
  ⟨(some 119), .ext (.t 114) 0, none⟩,
  ⟨(some 120), .ext (.t 114) 1, none⟩,
  ⟨(some 12), .alloc 25 [(.c .nil), (.c .nil), (.c .nil)], none⟩,
  ⟨none, .st (some 3) (.t 12) (.t 119), none⟩,
  ⟨(some 13), .mv (.t 120), none⟩] false
abbrev c8_56 : AC := .reg [⟨(some 121), .mv (.t 13), none⟩,
  ⟨(some 122), .bin .eql (.t 121) (.k (.I 7)), none⟩,
  ⟨(some 123), .mv (.t 122), none⟩,
  ⟨(some 124), .mv (.t 5), (some (123, true))⟩,
  ⟨(some 125), .fad 0 (.t 1), (some (123, true))⟩,
  ⟨(some 126), .ld none (.t 125), (some (123, true))⟩,
  ⟨(some 127), .len (.t 126), (some (123, true))⟩,
  ⟨(some 128), .bin .eql (.t 124) (.t 127), (some (123, true))⟩,
  ⟨(some 129), .pick (.t 123) (.t 128) (.k (.B false)), none⟩,
  ⟨(some 130), .mv (.t 129), none⟩,
  ⟨(some 131), .mv (.t 6), (some (130, true))⟩,
  ⟨(some 132), .fad 1 (.t 1), (some (130, true))⟩,
  ⟨(some 133), .ld none (.t 132), (some (130, true))⟩,
  ⟨(some 134), .len (.t 133), (some (130, true))⟩,
  ⟨(some 135), .bin .eql (.t 131) (.t 134), (some (130, true))⟩,
  ⟨(some 136), .pick (.t 130) (.t 135) (.k (.B false)), none⟩,
  ⟨(some 137), .mv (.t 136), none⟩,
  ⟨(some 138), .mv (.t 7), (some (137, true))⟩,
  ⟨(some 139), .fad 2 (.t 1), (some (137, true))⟩,
  ⟨(some 140), .ld none (.t 139), (some (137, true))⟩,
  ⟨(some 141), .len (.t 140), (some (137, true))⟩,
  ⟨(some 142), .bin .eql (.t 138) (.t 141), (some (137, true))⟩,
  ⟨(some 143), .pick (.t 137) (.t 142) (.k (.B false)), none⟩,
  ⟨(some 2), .mv (.t 143), none⟩] false
abbrev c8_57 : AC := .seq c8_56 .ret
abbrev c8_58 : AC := .seq c8_55 c8_57
abbrev c8_59 : AC := .seq c8_54 c8_58
abbrev c8_60 : AC := .seq c8_13 c8_59
abbrev c8_61 : AC := .seq c8_12 c8_60
abbrev c8_62 : AC := .seq c8_7 c8_61
abbrev c8_63 : AC := .seq c8_6 c8_62
abbrev c8_64 : AC := .seq c8_1 c8_63
abbrev c8 : AC := c8_64
theorem code8 : fnCode Try.prog 8 = some (c8, [2], 144) := by kernel_rfl

theorem f8e (g : Gr) (hn : (g.obv.length ≤ 40 ∧ g.rev.length ≤ 40 ∧ g.links.length ≤ 70) → validG g = false) : FnR Try.prog 8 [g.av] [.c (.B true)] := by
  have g11 := f11 g
  by_cases hf : g.obv.length ≤ 40 ∧ g.rev.length ≤ 40 ∧ g.links.length ≤ 70
  · rw [show decide (g.obv.length ≤ 40 ∧ g.rev.length ≤ 40 ∧ g.links.length ≤ 70) = true from decide_eq_true hf] at g11
    have hv := hn hf
    have g20 := f20e g hv
    have g32 := f32 g
    rw [hv] at g32
    refine fn_walk code8 (by simp) ?_
    (repeat' (first | refine NextAt.mk (fun hc => ?_) (fun pre n v post hc hkey => ?_) | refine Sni.mk (fun hc => ?_) ?_ | refine Both.mk ?_ ?_ | refine AW_seq ?_ | refine AW_block ?_ | ((first | refine AW_reg ?_ | refine AW_cond ?_ | refine AW_skip ?_ | refine AW_exit ?_ | refine AW_ret ?_ | refine AW_regD (by kernel_rfl) ?_ | refine AW_regX (by kernel_rfl) ?_ | refine CallAtG.t (Eq.refl true) ?_ | refine CallAtG.f (Eq.refl false) ?_ | refine CallAt.mk _ (f10 ..) (by first | (intro h; cases h; done) | (intro _; repeat' (first | exact List.forall_mem_nil _ | trivial | refine List.forall_mem_cons.2 ⟨?_, ?_⟩)) | (intro _; simp [RV.flatP, CD.flatP]; done)) ?_ | refine CallAtG.mk _ (fun _ => f10 ..) ?_ | refine CallDS.mk _ (by simp [RV.data]) (fun _ => f10 ..) (by first | (intro h; cases h; done) | (intro _; repeat' (first | exact List.forall_mem_nil _ | trivial | refine List.forall_mem_cons.2 ⟨?_, ?_⟩)) | (intro _; simp [RV.flatP, CD.flatP]; done)) ?_ | refine CallAt.mk _ (g11 ..) (by first | (intro h; cases h; done) | (intro _; repeat' (first | exact List.forall_mem_nil _ | trivial | refine List.forall_mem_cons.2 ⟨?_, ?_⟩)) | (intro _; simp [RV.flatP, CD.flatP]; done)) ?_ | refine CallAtG.mk _ (fun _ => g11 ..) ?_ | refine CallDS.mk _ (by simp [RV.data]) (fun _ => g11 ..) (by first | (intro h; cases h; done) | (intro _; repeat' (first | exact List.forall_mem_nil _ | trivial | refine List.forall_mem_cons.2 ⟨?_, ?_⟩)) | (intro _; simp [RV.flatP, CD.flatP]; done)) ?_ | refine CallAt.mk _ (g20 ..) (by first | (intro h; cases h; done) | (intro _; repeat' (first | exact List.forall_mem_nil _ | trivial | refine List.forall_mem_cons.2 ⟨?_, ?_⟩)) | (intro _; simp [RV.flatP, CD.flatP]; done)) ?_ | refine CallAtG.mk _ (fun _ => g20 ..) ?_ | refine CallDS.mk _ (by simp [RV.data]) (fun _ => g20 ..) (by first | (intro h; cases h; done) | (intro _; repeat' (first | exact List.forall_mem_nil _ | trivial | refine List.forall_mem_cons.2 ⟨?_, ?_⟩)) | (intro _; simp [RV.flatP, CD.flatP]; done)) ?_ | refine CallAt.mk _ (g32 ..) (by first | (intro h; cases h; done) | (intro _; repeat' (first | exact List.forall_mem_nil _ | trivial | refine List.forall_mem_cons.2 ⟨?_, ?_⟩)) | (intro _; simp [RV.flatP, CD.flatP]; done)) ?_ | refine CallAtG.mk _ (fun _ => g32 ..) ?_ | refine CallDS.mk _ (by simp [RV.data]) (fun _ => g32 ..) (by first | (intro h; cases h; done) | (intro _; repeat' (first | exact List.forall_mem_nil _ | trivial | refine List.forall_mem_cons.2 ⟨?_, ?_⟩)) | (intro _; simp [RV.flatP, CD.flatP]; done)) ?_); try simp (disch := omega) only [go_sem, seval, reduceCtorEq, ↓reduceIte, beq_dec, Int.toNat_natCast, IntKind.signed, IntKind.bits]) | refine And.intro (fun hc => (?_ : AW _ _ _ _)) (fun hc => (?_ : AW _ _ _ _)) | simp (disch := omega) only [go_sem, seval, reduceCtorEq, ↓reduceIte, beq_dec, Int.toNat_natCast, IntKind.signed, IntKind.bits] | (refine And.intro ?_ ?_; focus (first | (intros; omega) | (intros; simp_all; done))) | refine And.intro (?_ : CallAt _ _ _ _ _ _ _ _) ?_ | refine And.intro (?_ : CallAt _ _ _ _ _ _ _ _ ∧ _) ?_ | refine And.intro (?_ : AW _ _ _ _) ?_ | fail))
  · rw [show decide (g.obv.length ≤ 40 ∧ g.rev.length ≤ 40 ∧ g.links.length ≤ 70) = false from decide_eq_false hf] at g11
    refine fn_walk code8 (by simp) ?_
    (repeat' (first | refine NextAt.mk (fun hc => ?_) (fun pre n v post hc hkey => ?_) | refine Sni.mk (fun hc => ?_) ?_ | refine Both.mk ?_ ?_ | refine AW_seq ?_ | refine AW_block ?_ | ((first | refine AW_reg ?_ | refine AW_cond ?_ | refine AW_skip ?_ | refine AW_exit ?_ | refine AW_ret ?_ | refine AW_regD (by kernel_rfl) ?_ | refine AW_regX (by kernel_rfl) ?_ | refine CallAtG.t (Eq.refl true) ?_ | refine CallAtG.f (Eq.refl false) ?_ | refine CallAt.mk _ (f10 ..) (by first | (intro h; cases h; done) | (intro _; repeat' (first | exact List.forall_mem_nil _ | trivial | refine List.forall_mem_cons.2 ⟨?_, ?_⟩)) | (intro _; simp [RV.flatP, CD.flatP]; done)) ?_ | refine CallAtG.mk _ (fun _ => f10 ..) ?_ | refine CallDS.mk _ (by simp [RV.data]) (fun _ => f10 ..) (by first | (intro h; cases h; done) | (intro _; repeat' (first | exact List.forall_mem_nil _ | trivial | refine List.forall_mem_cons.2 ⟨?_, ?_⟩)) | (intro _; simp [RV.flatP, CD.flatP]; done)) ?_ | refine CallAt.mk _ (g11 ..) (by first | (intro h; cases h; done) | (intro _; repeat' (first | exact List.forall_mem_nil _ | trivial | refine List.forall_mem_cons.2 ⟨?_, ?_⟩)) | (intro _; simp [RV.flatP, CD.flatP]; done)) ?_ | refine CallAtG.mk _ (fun _ => g11 ..) ?_ | refine CallDS.mk _ (by simp [RV.data]) (fun _ => g11 ..) (by first | (intro h; cases h; done) | (intro _; repeat' (first | exact List.forall_mem_nil _ | trivial | refine List.forall_mem_cons.2 ⟨?_, ?_⟩)) | (intro _; simp [RV.flatP, CD.flatP]; done)) ?_); try simp (disch := omega) only [go_sem, seval, reduceCtorEq, ↓reduceIte, beq_dec, Int.toNat_natCast, IntKind.signed, IntKind.bits]) | refine And.intro (fun hc => (?_ : AW _ _ _ _)) (fun hc => (?_ : AW _ _ _ _)) | simp (disch := omega) only [go_sem, seval, reduceCtorEq, ↓reduceIte, beq_dec, Int.toNat_natCast, IntKind.signed, IntKind.bits] | (refine And.intro ?_ ?_; focus (first | (intros; omega) | (intros; simp_all; done))) | refine And.intro (?_ : CallAt _ _ _ _ _ _ _ _) ?_ | refine And.intro (?_ : CallAt _ _ _ _ _ _ _ _ ∧ _) ?_ | refine And.intro (?_ : AW _ _ _ _) ?_ | fail))
set_option maxHeartbeats 8000000 in
theorem f8v (g : Gr) (hv : validG g = true) : FnR Try.prog 8 [g.av] [.c (.B true)] := by
  have g11 := f11 g
  have hsm := valid_small hv
  rw [show decide (g.obv.length ≤ 40 ∧ g.rev.length ≤ 40 ∧ g.links.length ≤ 70) = true from decide_eq_true (by omega)] at g11
  have g20 := f20v g hv
  have g29n := f29n g (chG g).length hv (.inr (by omega))
  have hc := chG_len hv
  have hsum := all_sums hv
  have hb1 : ∀ k, (partR g (nth (chG g) k)).obv.length ≤ 32 := fun k => (valid_small (part_valid hv k)).1
  have hb2 : ∀ k, (partR g (nth (chG g) k)).rev.length ≤ 32 := fun k => (valid_small (part_valid hv k)).2.1
  have hb3 : ∀ k, (partR g (nth (chG g) k)).links.length ≤ 64 := fun k => (valid_small (part_valid hv k)).2.2
  have hs1 := sumN_le hb1
  have hs2 := sumN_le hb2
  have hs3 := sumN_le hb3
  refine fn_walk code8 (by simp) ?_
  (repeat' (first | refine NextAt.mk (fun hc => ?_) (fun pre n v post hc hkey => ?_) | refine Sni.mk (fun hc => ?_) ?_ | refine Both.mk ?_ ?_ | refine AW_seq ?_ | refine AW_block ?_ | ((first | refine AW_reg ?_ | refine AW_cond ?_ | refine AW_skip ?_ | refine AW_exit ?_ | refine AW_ret ?_ | refine AW_regD (by kernel_rfl) ?_ | refine AW_regX (by kernel_rfl) ?_ | refine CallAtG.t (Eq.refl true) ?_ | refine CallAtG.f (Eq.refl false) ?_ | refine CallAt.mk _ (f10 ..) (by first | (intro h; cases h; done) | (intro _; repeat' (first | exact List.forall_mem_nil _ | trivial | refine List.forall_mem_cons.2 ⟨?_, ?_⟩)) | (intro _; simp [RV.flatP, CD.flatP, List.length_map]; done)) ?_ | refine CallAtG.mk _ (fun _ => f10 ..) ?_ | refine CallDS.mk _ (by simp [RV.data]) (fun _ => f10 ..) (by first | (intro h; cases h; done) | (intro _; repeat' (first | exact List.forall_mem_nil _ | trivial | refine List.forall_mem_cons.2 ⟨?_, ?_⟩)) | (intro _; simp [RV.flatP, CD.flatP, List.length_map]; done)) ?_ | refine CallAt.mk _ (g11 ..) (by first | (intro h; cases h; done) | (intro _; repeat' (first | exact List.forall_mem_nil _ | trivial | refine List.forall_mem_cons.2 ⟨?_, ?_⟩)) | (intro _; simp [RV.flatP, CD.flatP, List.length_map]; done)) ?_ | refine CallAtG.mk _ (fun _ => g11 ..) ?_ | refine CallDS.mk _ (by simp [RV.data]) (fun _ => g11 ..) (by first | (intro h; cases h; done) | (intro _; repeat' (first | exact List.forall_mem_nil _ | trivial | refine List.forall_mem_cons.2 ⟨?_, ?_⟩)) | (intro _; simp [RV.flatP, CD.flatP, List.length_map]; done)) ?_ | refine CallAt.mk _ (g20 ..) (by first | (intro h; cases h; done) | (intro _; repeat' (first | exact List.forall_mem_nil _ | trivial | refine List.forall_mem_cons.2 ⟨?_, ?_⟩)) | (intro _; simp [RV.flatP, CD.flatP, List.length_map]; done)) ?_ | refine CallAtG.mk _ (fun _ => g20 ..) ?_ | refine CallDS.mk _ (by simp [RV.data]) (fun _ => g20 ..) (by first | (intro h; cases h; done) | (intro _; repeat' (first | exact List.forall_mem_nil _ | trivial | refine List.forall_mem_cons.2 ⟨?_, ?_⟩)) | (intro _; simp [RV.flatP, CD.flatP, List.length_map]; done)) ?_); try simp (disch := omega) only [go_sem, seval, reduceCtorEq, ↓reduceIte, beq_dec, Int.toNat_natCast, IntKind.signed, IntKind.bits, List.length_map]) | refine And.intro (fun hc => (?_ : AW _ _ _ _)) (fun hc => (?_ : AW _ _ _ _)) | simp (disch := omega) only [go_sem, seval, reduceCtorEq, ↓reduceIte, beq_dec, Int.toNat_natCast, IntKind.signed, IntKind.bits, List.length_map] | (refine And.intro ?_ ?_; focus (first | (intros; omega) | (intros; simp_all; done))) | refine And.intro (?_ : CallAt _ _ _ _ _ _ _ _) ?_ | refine And.intro (?_ : CallAt _ _ _ _ _ _ _ _ ∧ _) ?_ | refine And.intro (?_ : AW _ _ _ _) ?_ | fail))
  refine AW_loopK [1, 3] [2, 5, 6, 7, 8, 9, 10, 11, 37, 38, 39, 40, 41, 42, 43, 44, 45, 46, 47, 48, 49, 50, 51, 52, 53, 54, 55, 56, 57, 58, 59, 60, 61, 62, 63, 64, 65, 66, 67, 68, 69, 70, 71, 72, 73, 74, 75, 76, 77, 78, 79, 80, 81, 82, 83, 84, 85, 86, 87, 88, 89, 90, 91, 92, 93, 94, 95, 96, 97, 98, 99, 100, 101, 102, 103, 104, 105, 106, 107, 108, 109, 110, 111, 112, 113] (fun k : Nat => k ≤ (chG g).length) (fun k => [(8, .I k), (5, .I (sumN (fun k => (partR g (nth (chG g) k)).obv.length) k)), (6, .I (sumN (fun k => (partR g (nth (chG g) k)).rev.length) k)), (7, .I (sumN (fun k => (partR g (nth (chG g) k)).links.length) k))]) (fun _ => []) (fun k => (chG g).length - k) 0 (by omega) ?_ ?_
  · simp (disch := omega) only [go_sem, seval, reduceCtorEq, ↓reduceIte, beq_dec, Int.toNat_natCast, IntKind.signed, IntKind.bits, Int.natCast_zero, sumN]
  · intro k hk
    rcases Nat.lt_or_ge k (chG g).length with hkl | hkl
    · have g29 := f29v g k hv hkl
      have h2 := part_two hv hkl
      have hj := fun a b => part_joined (k := k) (a := a) (b := b) hv
      have hl : (partR g (nth (chG g) k)).obv.length + (partR g (nth (chG g) k)).rev.length = (nth (chG g) k).length := obvs_revs_len _
      have u1 : sumN (fun k => (partR g (nth (chG g) k)).obv.length) (k + 1) = sumN (fun k => (partR g (nth (chG g) k)).obv.length) k + (partR g (nth (chG g) k)).obv.length := rfl
      have u2 : sumN (fun k => (partR g (nth (chG g) k)).rev.length) (k + 1) = sumN (fun k => (partR g (nth (chG g) k)).rev.length) k + (partR g (nth (chG g) k)).rev.length := rfl
      have u3 : sumN (fun k => (partR g (nth (chG g) k)).links.length) (k + 1) = sumN (fun k => (partR g (nth (chG g) k)).links.length) k + (partR g (nth (chG g) k)).links.length := rfl
      have v1 := hs1 k
      have v2 := hs2 k
      have v3 := hs3 k
      have w1 := hb1 k
      have w2 := hb2 k
      have w3 := hb3 k
      generalize sumN (fun k => (partR g (nth (chG g) k)).obv.length) = s1 at *
      generalize sumN (fun k => (partR g (nth (chG g) k)).rev.length) = s2 at *
      generalize sumN (fun k => (partR g (nth (chG g) k)).links.length) = s3 at *
      generalize partR g (nth (chG g) k) = h at *
      (repeat' (first | refine NextAt.mk (fun hc => ?_) (fun pre n v post hc hkey => ?_) | refine Sni.mk (fun hc => ?_) ?_ | refine Both.mk ?_ ?_ | refine AW_seq ?_ | refine AW_block ?_ | ((first | refine AW_reg ?_ | refine AW_cond ?_ | refine AW_skip ?_ | refine AW_exit ?_ | refine AW_ret ?_ | refine AW_regD (by kernel_rfl) ?_ | refine AW_regX (by kernel_rfl) ?_ | refine CallAtG.t (Eq.refl true) ?_ | refine CallAtG.f (Eq.refl false) ?_ | refine CallAt.mk _ (g29 ..) (by first | (intro h; cases h; done) | (intro _; repeat' (first | exact List.forall_mem_nil _ | trivial | refine List.forall_mem_cons.2 ⟨?_, ?_⟩)) | (intro _; simp [RV.flatP, CD.flatP, List.length_map, getD_map (fun c : List Die => [DL c])]; done)) ?_ | refine CallAtG.mk _ (fun _ => g29 ..) ?_ | refine CallDS.mk _ (by simp [RV.data]) (fun _ => g29 ..) (by first | (intro h; cases h; done) | (intro _; repeat' (first | exact List.forall_mem_nil _ | trivial | refine List.forall_mem_cons.2 ⟨?_, ?_⟩)) | (intro _; simp [RV.flatP, CD.flatP, List.length_map, getD_map (fun c : List Die => [DL c])]; done)) ?_); try simp (disch := omega) only [go_sem, seval, reduceCtorEq, ↓reduceIte, beq_dec, Int.toNat_natCast, IntKind.signed, IntKind.bits, List.length_map, getD_map (fun c : List Die => [DL c])]) | refine And.intro (fun hc => (?_ : AW _ _ _ _)) (fun hc => (?_ : AW _ _ _ _)) | simp (disch := omega) only [go_sem, seval, reduceCtorEq, ↓reduceIte, beq_dec, Int.toNat_natCast, IntKind.signed, IntKind.bits, List.length_map, getD_map (fun c : List Die => [DL c])] | (refine And.intro ?_ ?_; focus (first | (intros; omega) | (intros; simp_all; done))) | refine And.intro (?_ : CallAt _ _ _ _ _ _ _ _) ?_ | refine And.intro (?_ : CallAt _ _ _ _ _ _ _ _ ∧ _) ?_ | refine And.intro (?_ : AW _ _ _ _) ?_ | fail))
      · omega
      · have hcl : (nth (chG g) k).length ≤ 64 := chG_rowlen hv k
        refine AW_loopK [1, 3, 5, 6, 7, 8, 9] [2, 11, 74, 75, 76, 77, 78, 79, 80, 81, 82, 83, 84, 85, 86, 87, 88, 89, 90, 91, 92, 93, 94, 95, 96, 97, 98] (fun i : Nat => i ≤ (nth (chG g) k).length) (fun i => [(11, .I i)]) (fun _ => []) (fun i => (nth (chG g) k).length - i) 0 (by omega) ?_ ?_
        · simp (disch := omega) only [go_sem, seval, reduceCtorEq, ↓reduceIte, beq_dec, Int.toNat_natCast, IntKind.signed, IntKind.bits, Int.natCast_zero]
        · intro i hi
          rcases Nat.lt_or_ge i (nth (chG g) k).length with hil | hil
          · have g17 := f17 h (nth (nth (chG g) k) 0) (nth (nth (chG g) k) i)
            rw [hj _ _ (nth_mem' _ 0 (by omega)) (nth_mem' _ i hil)] at g17
            rw [show decide ((0 : Int) = 0) = true from rfl] at g17
            (repeat' (first | refine NextAt.mk (fun hc => ?_) (fun pre n v post hc hkey => ?_) | refine Sni.mk (fun hc => ?_) ?_ | refine Both.mk ?_ ?_ | refine AW_seq ?_ | refine AW_block ?_ | ((first | refine AW_reg ?_ | refine AW_cond ?_ | refine AW_skip ?_ | refine AW_exit ?_ | refine AW_ret ?_ | refine AW_regD (by kernel_rfl) ?_ | refine AW_regX (by kernel_rfl) ?_ | refine CallAtG.t (Eq.refl true) ?_ | refine CallAtG.f (Eq.refl false) ?_ | refine CallAt.mk _ (g17 ..) (by first | (intro h; cases h; done) | (intro _; repeat' (first | exact List.forall_mem_nil _ | trivial | refine List.forall_mem_cons.2 ⟨?_, ?_⟩)) | (intro _; simp [RV.flatP, CD.flatP, List.length_map, getD_map (fun c : List Die => [DL c]), getD_map Die.cd, Die.cd, List.map_cons, List.map_nil]; done)) ?_ | refine CallAtG.mk _ (fun _ => g17 ..) ?_ | refine CallDS.mk _ (by simp [RV.data]) (fun _ => g17 ..) (by first | (intro h; cases h; done) | (intro _; repeat' (first | exact List.forall_mem_nil _ | trivial | refine List.forall_mem_cons.2 ⟨?_, ?_⟩)) | (intro _; simp [RV.flatP, CD.flatP, List.length_map, getD_map (fun c : List Die => [DL c]), getD_map Die.cd, Die.cd, List.map_cons, List.map_nil]; done)) ?_); try simp (disch := omega) only [go_sem, seval, reduceCtorEq, ↓reduceIte, beq_dec, Int.toNat_natCast, IntKind.signed, IntKind.bits, List.length_map, getD_map (fun c : List Die => [DL c]), getD_map Die.cd, Die.cd, List.map_cons, List.map_nil]) | refine And.intro (fun hc => (?_ : AW _ _ _ _)) (fun hc => (?_ : AW _ _ _ _)) | simp (disch := omega) only [go_sem, seval, reduceCtorEq, ↓reduceIte, beq_dec, Int.toNat_natCast, IntKind.signed, IntKind.bits, List.length_map, getD_map (fun c : List Die => [DL c]), getD_map Die.cd, Die.cd, List.map_cons, List.map_nil] | (refine And.intro ?_ ?_; focus (first | (intros; omega) | (intros; simp_all; done))) | refine And.intro (?_ : CallAt _ _ _ _ _ _ _ _) ?_ | refine And.intro (?_ : CallAt _ _ _ _ _ _ _ _ ∧ _) ?_ | refine And.intro (?_ : AW _ _ _ _) ?_ | fail))
            · refine .mk (i + 1) (by omega) (by omega) ?_
              simp (disch := omega) only [go_sem, seval, reduceCtorEq, ↓reduceIte, beq_dec, Int.toNat_natCast, IntKind.signed, IntKind.bits, Int.natCast_add, Int.natCast_one]
            all_goals omega
          · have hie : i = (nth (chG g) k).length := by omega
            subst hie
            (repeat' (first | refine NextAt.mk (fun hc => ?_) (fun pre n v post hc hkey => ?_) | refine Sni.mk (fun hc => ?_) ?_ | refine Both.mk ?_ ?_ | refine AW_seq ?_ | refine AW_block ?_ | ((first | refine AW_reg ?_ | refine AW_cond ?_ | refine AW_skip ?_ | refine AW_exit ?_ | refine AW_ret ?_ | refine AW_regD (by kernel_rfl) ?_ | refine AW_regX (by kernel_rfl) ?_ | refine CallAtG.t (Eq.refl true) ?_ | refine CallAtG.f (Eq.refl false) ?_); try simp (disch := omega) only [go_sem, seval, reduceCtorEq, ↓reduceIte, beq_dec, Int.toNat_natCast, IntKind.signed, IntKind.bits, List.length_map, getD_map (fun c : List Die => [DL c])]) | refine And.intro (fun hc => (?_ : AW _ _ _ _)) (fun hc => (?_ : AW _ _ _ _)) | simp (disch := omega) only [go_sem, seval, reduceCtorEq, ↓reduceIte, beq_dec, Int.toNat_natCast, IntKind.signed, IntKind.bits, List.length_map, getD_map (fun c : List Die => [DL c])] | (refine And.intro ?_ ?_; focus (first | (intros; omega) | (intros; simp_all; done))) | refine And.intro (?_ : CallAt _ _ _ _ _ _ _ _) ?_ | refine And.intro (?_ : CallAt _ _ _ _ _ _ _ _ ∧ _) ?_ | refine And.intro (?_ : AW _ _ _ _) ?_ | fail))
            · omega
            · refine .mk (k + 1) (by omega) (by omega) ?_
              rw [u1, u2, u3]
              simp (disch := omega) only [go_sem, seval, reduceCtorEq, ↓reduceIte, beq_dec, Int.toNat_natCast, IntKind.signed, IntKind.bits, Int.natCast_add, Int.natCast_one]
      · exfalso; omega
    · have hke : k = (chG g).length := by omega
      subst hke
      rw [hsum.1, hsum.2.1, hsum.2.2]
      (repeat' (first | refine NextAt.mk (fun hc => ?_) (fun pre n v post hc hkey => ?_) | refine Sni.mk (fun hc => ?_) ?_ | refine Both.mk ?_ ?_ | refine AW_seq ?_ | refine AW_block ?_ | ((first | refine AW_reg ?_ | refine AW_cond ?_ | refine AW_skip ?_ | refine AW_exit ?_ | refine AW_ret ?_ | refine AW_regD (by kernel_rfl) ?_ | refine AW_regX (by kernel_rfl) ?_ | refine CallAtG.t (Eq.refl true) ?_ | refine CallAtG.f (Eq.refl false) ?_ | refine CallAt.mk _ (g29n ..) (by first | (intro h; cases h; done) | (intro _; repeat' (first | exact List.forall_mem_nil _ | trivial | refine List.forall_mem_cons.2 ⟨?_, ?_⟩)) | (intro _; simp [RV.flatP, CD.flatP, List.length_map]; done)) ?_ | refine CallAtG.mk _ (fun _ => g29n ..) ?_ | refine CallDS.mk _ (by simp [RV.data]) (fun _ => g29n ..) (by first | (intro h; cases h; done) | (intro _; repeat' (first | exact List.forall_mem_nil _ | trivial | refine List.forall_mem_cons.2 ⟨?_, ?_⟩)) | (intro _; simp [RV.flatP, CD.flatP, List.length_map]; done)) ?_); try simp (disch := omega) only [go_sem, seval, reduceCtorEq, ↓reduceIte, beq_dec, Int.toNat_natCast, IntKind.signed, IntKind.bits, List.length_map]) | refine And.intro (fun hc => (?_ : AW _ _ _ _)) (fun hc => (?_ : AW _ _ _ _)) | simp (disch := omega) only [go_sem, seval, reduceCtorEq, ↓reduceIte, beq_dec, Int.toNat_natCast, IntKind.signed, IntKind.bits, List.length_map] | (refine And.intro ?_ ?_; focus (first | (intros; omega) | (intros; simp_all; done))) | refine And.intro (?_ : CallAt _ _ _ _ _ _ _ _) ?_ | refine And.intro (?_ : CallAt _ _ _ _ _ _ _ _ ∧ _) ?_ | refine And.intro (?_ : AW _ _ _ _) ?_ | fail))
      · exfalso; omega
theorem f8 (g : Gr) : FnR Try.prog 8 [g.av] [.c (.B true)] := by
  cases hv : validG g with
  | true => exact f8v g hv
  | false => exact f8e g fun _ => hv
end Go.Proofs.Ytlomngideedobaa

