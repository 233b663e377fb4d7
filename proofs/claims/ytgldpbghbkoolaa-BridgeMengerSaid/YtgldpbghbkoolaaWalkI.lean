/-
  Lemmas for the proof: no statement of its own.
-/
import Derived.Test.YtgldpbghbkoolaaPlainE
import Derived.Test.YtgldpbghbkoolaaWalkE
import Derived.KernelRfl
set_option linter.unusedVariables false
set_option linter.unusedSimpArgs false
-- P p_15.txt
open Go Go.AL Go.RowKit
namespace Go.Proofs.Ytgldpbghbkoolaa
set_option maxRecDepth 20000
/- coinage/linkage.Degree -/
abbrev c22_1 : AC := .reg [⟨(some 2), .box 25 (some 3) (.t 0), none⟩,
  ⟨(some 3), .box 27 (some 2) (.t 1), none⟩,
  ⟨(some 4), .mv (.k (.I 0)), none⟩] false
abbrev c22_2 : AC := .reg [⟨(some 8), .ld (some 3) (.t 2), none⟩,
  ⟨(some 9), .call 20 [(.t 8)], none⟩,
  ⟨(some 10), .not (.t 9), none⟩,
  ⟨(some 11), .mv (.t 10), none⟩,
  ⟨(some 12), .fad 0 (.t 3), (some (11, false))⟩,
  ⟨(some 13), .ld none (.t 12), (some (11, false))⟩,
  ⟨(some 14), .bin .neq (.t 13) (.k (.I 0)), (some (11, false))⟩,
  ⟨(some 15), .mv (.t 14), (some (11, false))⟩,
  ⟨(some 16), .fad 0 (.t 3), (some (15, true))⟩,
  ⟨(some 17), .ld none (.t 16), (some (15, true))⟩,
  ⟨(some 18), .bin .neq (.t 17) (.k (.I 1)), (some (15, true))⟩,
  ⟨(some 19), .pick (.t 15) (.t 18) (.k (.B false)), (some (11, false))⟩,
  ⟨(some 20), .pick (.t 11) (.k (.B true)) (.t 19), none⟩] false
abbrev c22_3 : AC := .reg [⟨(some 4), .mv (.k (.I 0)), none⟩] false
abbrev c22_4 : AC := .seq c22_3 .ret
abbrev c22_5 : AC := .cond (.t 20) c22_4 .skip
abbrev c22_6 : AC := .seq c22_2 c22_5
abbrev c22_7 : AC := .reg [⟨(some 5), .mv (.k (.I 0)), none⟩] false
abbrev c22_8 : AC := .reg [⟨(some 21), .fad 2 (.t 2), none⟩,
  ⟨(some 22), .ld none (.t 21), none⟩,
  ⟨(some 23), .len (.t 22), none⟩,
  ⟨(some 24), .mv (.k (.I 0)), none⟩] false
abbrev c22_9 : AC := .reg [⟨(some 25), .bin .lss (.t 24) (.t 23), none⟩] false
abbrev c22_10 : AC := .cond (.t 25) .skip (.exit 0)
abbrev c22_11 : AC := .reg [⟨(some 26), .iad 3 (.t 22) (.t 24), none⟩,
  ⟨(some 27), .ld (some 3) (.t 26), none⟩,
  ⟨(some 7), .alloc 44 [(.I 0), (.I 0), (.I 0)], none⟩,
  ⟨none, .st (some 3) (.t 7) (.t 27), none⟩] false
abbrev c22_12 : AC := .regD [(⟨(some 28), .ld (some 3) (.t 7), none⟩, [7]),
  (⟨(some 29), .fad 0 (.t 3), none⟩, [3]),
  (⟨(some 30), .ld none (.t 29), none⟩, [29]),
  (⟨(some 31), .call 45 [(.t 28), (.t 30)], none⟩, [28, 30]),
  (⟨(some 32), .fad 1 (.t 3), none⟩, [3]),
  (⟨(some 33), .ld none (.t 32), none⟩, [32]),
  (⟨(some 34), .bin .eql (.t 31) (.t 33), none⟩, [31, 33])]
abbrev c22_13 : AC := .reg [⟨(some 35), .mv (.t 5), none⟩,
  ⟨(some 36), .bin .add (.t 35) (.k (.I 1)), none⟩,
  ⟨(some 5), .mv (.t 36), none⟩] false
abbrev c22_14 : AC := .cond (.t 34) c22_13 .skip
abbrev c22_15 : AC := .seq c22_12 c22_14
abbrev c22_16 : AC := .seq c22_11 c22_15
abbrev c22_17 : AC := .block 1 c22_16
abbrev c22_18 : AC := .reg [⟨(some 37), .bin .add (.t 24) (.k (.I 1)), none⟩,
  ⟨(some 24), .mv (.t 37), none⟩] false
abbrev c22_19 : AC := .seq c22_17 c22_18
abbrev c22_20 : AC := .seq c22_10 c22_19
abbrev c22_21 : AC := .seq c22_9 c22_20
abbrev c22_22 : AC := .loop c22_21
abbrev c22_23 : AC := .block 0 c22_22
abbrev c22_24 : AC := .seq c22_8 c22_23
abbrev c22_25 : AC := .reg [⟨(some 38), .mv (.t 5), none⟩,
  ⟨(some 4), .mv (.t 38), none⟩] false
abbrev c22_26 : AC := .seq c22_25 .ret
abbrev c22_27 : AC := .seq c22_24 c22_26
abbrev c22_28 : AC := .seq c22_7 c22_27
abbrev c22_29 : AC := .seq c22_6 c22_28
abbrev c22_30 : AC := .seq c22_1 c22_29
abbrev c22 : AC := c22_30
theorem code22 : fnCode Try.prog 22 = some (c22, [4], 39) := by kernel_rfl
/- coinage/coinagelaw15.joined -/
abbrev c24_1 : AC := .reg [⟨(some 4), .box 25 (some 3) (.t 0), none⟩,
  ⟨(some 6), .box 27 (some 2) (.t 2), none⟩,
  ⟨(some 7), .box 27 (some 2) (.t 3), none⟩,
  ⟨(some 8), .mv (.k (.B false)), none⟩] false
abbrev c24_2 : AC := .reg [⟨(some 17), .ld (some 2) (.t 6), none⟩,
  ⟨(some 18), .bslice 27 2 [(.t 17)], none⟩,
  ⟨(some 9), .mv (.t 18), none⟩] false
abbrev c24_3 : AC := .reg [⟨(some 10), .mv (.k (.I 0)), none⟩] false
abbrev c24_4 : AC := .reg [⟨(some 19), .mv (.t 10), none⟩,
  ⟨(some 20), .mv (.t 9), none⟩,
  ⟨(some 21), .len (.t 20), none⟩,
  ⟨(some 22), .bin .lss (.t 19) (.t 21), none⟩] false
abbrev c24_5 : AC := .cond (.t 22) .skip (.exit 0)
abbrev c24_6 : AC := .seq c24_4 c24_5
abbrev c24_7 : AC := .reg [⟨(some 11), .mv (.k (.I 0)), none⟩] false
abbrev c24_8 : AC := .reg [⟨(some 25), .mv (.t 11), none⟩,
  ⟨(some 26), .fad 2 (.t 4), none⟩,
  ⟨(some 27), .ld none (.t 26), none⟩,
  ⟨(some 28), .len (.t 27), none⟩,
  ⟨(some 29), .bin .lss (.t 25) (.t 28), none⟩] false
abbrev c24_9 : AC := .cond (.t 29) .skip (.exit 2)
abbrev c24_10 : AC := .seq c24_8 c24_9
abbrev c24_11 : AC := .reg [⟨(some 32), .fad 2 (.t 4), none⟩,
  ⟨(some 33), .ld none (.t 32), none⟩,
  ⟨(some 34), .mv (.t 11), none⟩,
  ⟨(some 35), .iad 3 (.t 33) (.t 34), none⟩,
  ⟨(some 36), .ld (some 3) (.t 35), none⟩,
  ⟨(some 12), .alloc 44 [(.I 0), (.I 0), (.I 0)], none⟩,
  ⟨none, .st (some 3) (.t 12) (.t 36), none⟩] false
abbrev c24_12 : AC := .regD [(⟨(some 37), .mv (.t 1), none⟩, [1]),
  (⟨(some 38), .fad 0 (.t 12), none⟩, [12]),
  (⟨(some 39), .ld none (.t 38), none⟩, [38]),
  (⟨(some 40), .call 21 [(.t 37), (.t 39)], none⟩, [37, 39]),
  (⟨(some 41), .mv (.t 40), none⟩, [40]),
  (⟨(some 42), .ld (some 3) (.t 12), (some (41, false))⟩, [12, 41]),
  (⟨(some 43), .mv (.t 9), (some (41, false))⟩, [9, 41]),
  (⟨(some 44), .mv (.t 10), (some (41, false))⟩, [10, 41]),
  (⟨(some 45), .iad 2 (.t 43) (.t 44), (some (41, false))⟩, [43, 44, 41]),
  (⟨(some 46), .ld (some 2) (.t 45), (some (41, false))⟩, [45, 41]),
  (⟨(some 47), .call 47 [(.t 42), (.t 46)], (some (41, false))⟩, [42, 46, 41]),
  (⟨(some 48), .not (.t 47), (some (41, false))⟩, [47, 41]),
  (⟨(some 49), .pick (.t 41) (.k (.B true)) (.t 48), none⟩, [41, 48])]
abbrev c24_13 : AC := .cond (.t 49) (.exit 3) .skip
abbrev c24_14 : AC := .seq c24_12 c24_13
abbrev c24_15 : AC := .reg [⟨(some 50), .fad 2 (.t 12), none⟩,
  ⟨(some 51), .ld none (.t 50), none⟩,
  ⟨(some 52), .build [(.I 0), (.I 0)] [(0, 1, (.k (.I 1))), (1, 1, (.t 51))], none⟩,
  ⟨(some 13), .alloc 27 [(.I 0), (.I 0)], none⟩,
  ⟨none, .st (some 2) (.t 13) (.t 52), none⟩] false
abbrev c24_16 : AC := .reg [⟨(some 53), .mv (.t 9), none⟩,
  ⟨(some 54), .mv (.t 10), none⟩,
  ⟨(some 55), .iad 2 (.t 53) (.t 54), none⟩,
  ⟨(some 56), .fad 0 (.t 55), none⟩,
  ⟨(some 57), .ld none (.t 56), none⟩,
  ⟨(some 58), .bin .eql (.t 57) (.k (.I 1)), none⟩] false
abbrev c24_17 : AC := .reg [⟨(some 59), .fad 1 (.t 12), none⟩,
  ⟨(some 60), .ld none (.t 59), none⟩,
  ⟨(some 61), .build [(.I 0), (.I 0)] [(1, 1, (.t 60))], none⟩,
  ⟨none, .st (some 2) (.t 13) (.t 61), none⟩] false
abbrev c24_18 : AC := .cond (.t 58) c24_17 .skip
abbrev c24_19 : AC := .seq c24_16 c24_18
abbrev c24_20 : AC := .reg [⟨(some 14), .mv (.k (.B false)), none⟩] false
abbrev c24_21 : AC := .reg [⟨(some 15), .mv (.k (.I 0)), none⟩] false
abbrev c24_22 : AC := .reg [⟨(some 62), .mv (.t 15), none⟩,
  ⟨(some 63), .mv (.t 9), none⟩,
  ⟨(some 64), .len (.t 63), none⟩,
  ⟨(some 65), .bin .lss (.t 62) (.t 64), none⟩] false
abbrev c24_23 : AC := .cond (.t 65) .skip (.exit 4)
abbrev c24_24 : AC := .seq c24_22 c24_23
abbrev c24_25 : AC := .regD [(⟨(some 68), .mv (.t 14), none⟩, [14]),
  (⟨(some 69), .mv (.t 68), none⟩, [68]),
  (⟨(some 70), .mv (.t 9), (some (69, false))⟩, [9, 69]),
  (⟨(some 71), .mv (.t 15), (some (69, false))⟩, [15, 69]),
  (⟨(some 72), .iad 2 (.t 70) (.t 71), (some (69, false))⟩, [70, 71, 69]),
  (⟨(some 73), .ld (some 2) (.t 72), (some (69, false))⟩, [72, 69]),
  (⟨(some 74), .ld (some 2) (.t 13), (some (69, false))⟩, [13, 69]),
  (⟨(some 75), .eqs false [false, false] (.t 73) (.t 74), (some (69, false))⟩, [73, 74, 69]),
  (⟨(some 76), .pick (.t 69) (.k (.B true)) (.t 75), none⟩, [69, 75]),
  (⟨(some 14), .mv (.t 76), none⟩, [76])]
abbrev c24_26 : AC := .block 5 c24_25
abbrev c24_27 : AC := .reg [⟨(some 66), .mv (.t 15), none⟩,
  ⟨(some 67), .bin .add (.t 66) (.k (.I 1)), none⟩,
  ⟨(some 15), .mv (.t 67), none⟩] false
abbrev c24_28 : AC := .seq c24_26 c24_27
abbrev c24_29 : AC := .seq c24_24 c24_28
abbrev c24_30 : AC := .loop c24_29
abbrev c24_31 : AC := .block 4 c24_30
abbrev c24_32 : AC := .seq c24_21 c24_31
abbrev c24_33 : AC := .reg [⟨(some 77), .mv (.t 14), none⟩,
  ⟨(some 78), .not (.t 77), none⟩] false
abbrev c24_34 : AC := .reg [⟨(some 79), .mv (.t 9), none⟩,
  ⟨(some 80), .ld (some 2) (.t 13), none⟩,
  ⟨(some 81), .bslice 27 2 [(.t 80)], none⟩,
  ⟨(some 82), .app 27 2 16 (.t 79) (.t 81), none⟩,
  ⟨(some 9), .mv (.t 82), none⟩] false
abbrev c24_35 : AC := .cond (.t 78) c24_34 .skip
abbrev c24_36 : AC := .seq c24_33 c24_35
abbrev c24_37 : AC := .seq c24_32 c24_36
abbrev c24_38 : AC := .seq c24_20 c24_37
abbrev c24_39 : AC := .seq c24_19 c24_38
abbrev c24_40 : AC := .seq c24_15 c24_39
abbrev c24_41 : AC := .seq c24_14 c24_40
abbrev c24_42 : AC := .seq c24_11 c24_41
abbrev c24_43 : AC := .block 3 c24_42
abbrev c24_44 : AC := .reg [⟨(some 30), .mv (.t 11), none⟩,
  ⟨(some 31), .bin .add (.t 30) (.k (.I 1)), none⟩,
  ⟨(some 11), .mv (.t 31), none⟩] false
abbrev c24_45 : AC := .seq c24_43 c24_44
abbrev c24_46 : AC := .seq c24_10 c24_45
abbrev c24_47 : AC := .loop c24_46
abbrev c24_48 : AC := .block 2 c24_47
abbrev c24_49 : AC := .seq c24_7 c24_48
abbrev c24_50 : AC := .block 1 c24_49
abbrev c24_51 : AC := .reg [⟨(some 23), .mv (.t 10), none⟩,
  ⟨(some 24), .bin .add (.t 23) (.k (.I 1)), none⟩,
  ⟨(some 10), .mv (.t 24), none⟩] false
abbrev c24_52 : AC := .seq c24_50 c24_51
abbrev c24_53 : AC := .seq c24_6 c24_52
abbrev c24_54 : AC := .loop c24_53
abbrev c24_55 : AC := .block 0 c24_54
abbrev c24_56 : AC := .seq c24_3 c24_55
abbrev c24_57 : AC := .reg [⟨(some 16), .mv (.k (.I 0)), none⟩] false
abbrev c24_58 : AC := .reg [⟨(some 83), .mv (.t 16), none⟩,
  ⟨(some 84), .mv (.t 9), none⟩,
  ⟨(some 85), .len (.t 84), none⟩,
  ⟨(some 86), .bin .lss (.t 83) (.t 85), none⟩] false
abbrev c24_59 : AC := .cond (.t 86) .skip (.exit 6)
abbrev c24_60 : AC := .seq c24_58 c24_59
abbrev c24_61 : AC := .regD [(⟨(some 89), .mv (.t 9), none⟩, [9]),
  (⟨(some 90), .mv (.t 16), none⟩, [16]),
  (⟨(some 91), .iad 2 (.t 89) (.t 90), none⟩, [89, 90]),
  (⟨(some 92), .ld (some 2) (.t 91), none⟩, [91]),
  (⟨(some 93), .ld (some 2) (.t 7), none⟩, [7]),
  (⟨(some 94), .eqs false [false, false] (.t 92) (.t 93), none⟩, [92, 93])]
abbrev c24_62 : AC := .reg [⟨(some 8), .mv (.k (.B true)), none⟩] false
abbrev c24_63 : AC := .seq c24_62 .ret
abbrev c24_64 : AC := .cond (.t 94) c24_63 .skip
abbrev c24_65 : AC := .seq c24_61 c24_64
abbrev c24_66 : AC := .block 7 c24_65
abbrev c24_67 : AC := .reg [⟨(some 87), .mv (.t 16), none⟩,
  ⟨(some 88), .bin .add (.t 87) (.k (.I 1)), none⟩,
  ⟨(some 16), .mv (.t 88), none⟩] false
abbrev c24_68 : AC := .seq c24_66 c24_67
abbrev c24_69 : AC := .seq c24_60 c24_68
abbrev c24_70 : AC := .loop c24_69
abbrev c24_71 : AC := .block 6 c24_70
abbrev c24_72 : AC := .seq c24_57 c24_71
abbrev c24_73 : AC := .reg [⟨(some 8), .mv (.k (.B false)), none⟩] false
abbrev c24_74 : AC := .seq c24_73 .ret
abbrev c24_75 : AC := .seq c24_72 c24_74
abbrev c24_76 : AC := .seq c24_56 c24_75
abbrev c24_77 : AC := .seq c24_2 c24_76
abbrev c24_78 : AC := .seq c24_1 c24_77
abbrev c24 : AC := c24_78
theorem code24 : fnCode Try.prog 24 = some (c24, [8], 95) := by kernel_rfl
/- coinage/linkage.end -/
abbrev c45_1 : AC := .reg [⟨(some 2), .box 44 (some 3) (.t 0), none⟩,
  ⟨(some 4), .mv (.k (.I 0)), none⟩] false
abbrev c45_2 : AC := .reg [⟨(some 5), .mv (.t 1), none⟩,
  ⟨(some 6), .bin .eql (.t 5) (.k (.I 0)), none⟩] false
abbrev c45_3 : AC := .reg [⟨(some 7), .fad 1 (.t 2), none⟩,
  ⟨(some 8), .ld none (.t 7), none⟩,
  ⟨(some 4), .mv (.t 8), none⟩] false
abbrev c45_4 : AC := .seq c45_3 .ret
abbrev c45_5 : AC := .cond (.t 6) c45_4 .skip
abbrev c45_6 : AC := .seq c45_2 c45_5
abbrev c45_7 : AC := .reg [⟨(some 9), .fad 2 (.t 2), none⟩,
  ⟨(some 10), .ld none (.t 9), none⟩,
  ⟨(some 4), .mv (.t 10), none⟩] false
abbrev c45_8 : AC := .seq c45_7 .ret
abbrev c45_9 : AC := .seq c45_6 c45_8
abbrev c45_10 : AC := .seq c45_1 c45_9
abbrev c45 : AC := c45_10
theorem code45 : fnCode Try.prog 45 = some (c45, [4], 11) := by kernel_rfl
/- coinage/coinageref13.Touches -/
abbrev c47_1 : AC := .reg [⟨(some 2), .box 44 (some 3) (.t 0), none⟩,
  ⟨(some 3), .box 27 (some 2) (.t 1), none⟩,
  ⟨(some 4), .mv (.k (.B false)), none⟩] false
abbrev c47_2 : AC := .reg [⟨(some 5), .fad 0 (.t 3), none⟩,
  ⟨(some 6), .ld none (.t 5), none⟩,
  ⟨(some 7), .bin .eql (.t 6) (.k (.I 0)), none⟩,
  ⟨(some 8), .mv (.t 7), none⟩,
  ⟨(some 9), .fad 1 (.t 2), (some (8, true))⟩,
  ⟨(some 10), .ld none (.t 9), (some (8, true))⟩,
  ⟨(some 11), .fad 1 (.t 3), (some (8, true))⟩,
  ⟨(some 12), .ld none (.t 11), (some (8, true))⟩,
  ⟨(some 13), .bin .eql (.t 10) (.t 12), (some (8, true))⟩,
  ⟨(some 14), .pick (.t 8) (.t 13) (.k (.B false)), none⟩,
  ⟨(some 15), .mv (.t 14), none⟩,
  ⟨(some 16), .fad 0 (.t 3), (some (15, false))⟩,
  ⟨(some 17), .ld none (.t 16), (some (15, false))⟩,
  ⟨(some 18), .bin .eql (.t 17) (.k (.I 1)), (some (15, false))⟩,
  ⟨(some 19), .mv (.t 18), (some (15, false))⟩,
  ⟨(some 20), .fad 2 (.t 2), (some (19, true))⟩,
  ⟨(some 21), .ld none (.t 20), (some (19, true))⟩,
  ⟨(some 22), .fad 1 (.t 3), (some (19, true))⟩,
  ⟨(some 23), .ld none (.t 22), (some (19, true))⟩,
  ⟨(some 24), .bin .eql (.t 21) (.t 23), (some (19, true))⟩,
  ⟨(some 25), .pick (.t 19) (.t 24) (.k (.B false)), (some (15, false))⟩,
  ⟨(some 26), .pick (.t 15) (.k (.B true)) (.t 25), none⟩,
  ⟨(some 4), .mv (.t 26), none⟩] false
abbrev c47_3 : AC := .seq c47_2 .ret
abbrev c47_4 : AC := .seq c47_1 c47_3
abbrev c47 : AC := c47_4
theorem code47 : fnCode Try.prog 47 = some (c47, [4], 27) := by kernel_rfl

def endD (x : Lk) (s : Int) : Int := if s = 0 then x.obv else x.rev
theorem n45 (x : Lk) (s : Int) : FnR Try.prog 45 [x.av, .I s] [.c (.I (endD x s))] := by
  refine fn_walk code45 (by simp) ?_
  by_cases h : s = 0
  · have e1 : (s = 0) = True := eq_true h
    (repeat' (first | refine NextAt.mk (fun hc => ?_) (fun pre n v post hc hkey => ?_) | refine Sni.mk (fun hc => ?_) ?_ | refine Both.mk ?_ ?_ | refine AW_seq ?_ | refine AW_block ?_ | ((first | refine AW_reg ?_ | refine AW_cond ?_ | refine AW_skip ?_ | refine AW_exit ?_ | refine AW_ret ?_ | refine AW_regD (by kernel_rfl) ?_ | refine AW_regX (by kernel_rfl) ?_ | refine CallAtG.t (Eq.refl true) ?_ | refine CallAtG.f (Eq.refl false) ?_); try simp (disch := omega) only [go_sem, seval, reduceCtorEq, ↓reduceIte, beq_dec, Int.toNat_natCast, IntKind.signed, IntKind.bits, e1, endD]) | refine And.intro (fun hc => (?_ : AW _ _ _ _)) (fun hc => (?_ : AW _ _ _ _)) | simp (disch := omega) only [go_sem, seval, reduceCtorEq, ↓reduceIte, beq_dec, Int.toNat_natCast, IntKind.signed, IntKind.bits, e1, endD] | (refine And.intro ?_ ?_; focus (first | (intros; omega) | (intros; simp_all; done))) | refine And.intro (?_ : CallAt _ _ _ _ _ _ _ _) ?_ | refine And.intro (?_ : CallAt _ _ _ _ _ _ _ _ ∧ _) ?_ | refine And.intro (?_ : AW _ _ _ _) ?_ | fail))
  · have e1 : (s = 0) = False := eq_false h
    (repeat' (first | refine NextAt.mk (fun hc => ?_) (fun pre n v post hc hkey => ?_) | refine Sni.mk (fun hc => ?_) ?_ | refine Both.mk ?_ ?_ | refine AW_seq ?_ | refine AW_block ?_ | ((first | refine AW_reg ?_ | refine AW_cond ?_ | refine AW_skip ?_ | refine AW_exit ?_ | refine AW_ret ?_ | refine AW_regD (by kernel_rfl) ?_ | refine AW_regX (by kernel_rfl) ?_ | refine CallAtG.t (Eq.refl true) ?_ | refine CallAtG.f (Eq.refl false) ?_); try simp (disch := omega) only [go_sem, seval, reduceCtorEq, ↓reduceIte, beq_dec, Int.toNat_natCast, IntKind.signed, IntKind.bits, e1, endD]) | refine And.intro (fun hc => (?_ : AW _ _ _ _)) (fun hc => (?_ : AW _ _ _ _)) | simp (disch := omega) only [go_sem, seval, reduceCtorEq, ↓reduceIte, beq_dec, Int.toNat_natCast, IntKind.signed, IntKind.bits, e1, endD] | (refine And.intro ?_ ?_; focus (first | (intros; omega) | (intros; simp_all; done))) | refine And.intro (?_ : CallAt _ _ _ _ _ _ _ _) ?_ | refine And.intro (?_ : CallAt _ _ _ _ _ _ _ _ ∧ _) ?_ | refine And.intro (?_ : AW _ _ _ _) ?_ | fail))
theorem n47 (x : Lk) (d : Die) : FnR Try.prog 47 [x.av, d.av] [.c (.B (across x d).isSome)] := by
  have e : (across x d).isSome = ((decide (d.side = 0) && decide (x.obv = d.num)) || (decide (d.side = 1) && decide (x.rev = d.num))) := by
    unfold across
    obtain ⟨s, n⟩ := d
    by_cases h1 : (⟨s, n⟩ : Die) = x.o
    · rw [if_pos h1]
      simp only [Lk.o, Die.mk.injEq] at h1
      obtain ⟨rfl, rfl⟩ := h1
      simp
    · rw [if_neg h1]
      by_cases h2 : (⟨s, n⟩ : Die) = x.r
      · rw [if_pos h2]
        simp only [Lk.r, Die.mk.injEq] at h2
        obtain ⟨rfl, rfl⟩ := h2
        simp
      · rw [if_neg h2]
        simp only [Lk.o, Lk.r, Die.mk.injEq] at h1 h2
        symm
        simp only [Option.isSome_none, Bool.or_eq_false_iff, Bool.and_eq_false_iff, decide_eq_false_iff_not]
        constructor
        · by_cases hs : s = 0
          · exact .inr fun h => h1 ⟨hs, h.symm⟩
          · exact .inl hs
        · by_cases hs : s = 1
          · exact .inr fun h => h2 ⟨hs, h.symm⟩
          · exact .inl hs
  rw [e]
  refine fn_walk code47 (by simp) ?_
  (repeat' (first | refine NextAt.mk (fun hc => ?_) (fun pre n v post hc hkey => ?_) | refine Sni.mk (fun hc => ?_) ?_ | refine Both.mk ?_ ?_ | refine AW_seq ?_ | refine AW_block ?_ | ((first | refine AW_reg ?_ | refine AW_cond ?_ | refine AW_skip ?_ | refine AW_exit ?_ | refine AW_ret ?_ | refine AW_regD (by kernel_rfl) ?_ | refine AW_regX (by kernel_rfl) ?_ | refine CallAtG.t (Eq.refl true) ?_ | refine CallAtG.f (Eq.refl false) ?_); try simp (disch := omega) only [go_sem, seval, reduceCtorEq, ↓reduceIte, beq_dec, Int.toNat_natCast, IntKind.signed, IntKind.bits]) | refine And.intro (fun hc => (?_ : AW _ _ _ _)) (fun hc => (?_ : AW _ _ _ _)) | simp (disch := omega) only [go_sem, seval, reduceCtorEq, ↓reduceIte, beq_dec, Int.toNat_natCast, IntKind.signed, IntKind.bits] | (refine And.intro ?_ ?_; focus (first | (intros; omega) | (intros; simp_all; done))) | refine And.intro (?_ : CallAt _ _ _ _ _ _ _ _) ?_ | refine And.intro (?_ : CallAt _ _ _ _ _ _ _ _ ∧ _) ?_ | refine And.intro (?_ : AW _ _ _ _) ?_ | fail))
def degI (ls : List Lk) (d : Die) : Nat := (ls.filter fun x => decide (endD x d.side = d.num)).length
theorem degI_take (ls : List Lk) (d : Die) (i : Nat) (h : i < ls.length) : degI (ls.take (i + 1)) d = degI (ls.take i) d + if endD (nth ls i) d.side = d.num then 1 else 0 := by
  unfold degI
  rw [List.take_succ_eq_append_getElem h, List.filter_append, List.length_append, nth_eq ls i h]
  congr 1
  simp only [List.filter_cons, List.filter_nil, decide_eq_true_eq]
  split <;> rfl
theorem degI_le (ls : List Lk) (d : Die) (i : Nat) (h : i ≤ ls.length) : degI (ls.take i) d ≤ i := by
  unfold degI
  exact Nat.le_trans (List.length_filter_le _ _) (by simp; omega)
theorem n22 (g : Gr) (d : Die) (hv : validG g = true) (hs : d.side = 0 ∨ d.side = 1) : FnR Try.prog 22 [g.av, d.av] [.c (.I (degI g.links d))] := by
  have g32 := f32 g
  rw [hv] at g32
  have hsm := valid_small hv
  refine fn_walk code22 (by simp) ?_
  have e1 : (¬ d.side = 0 ∧ ¬ d.side = 1) = False := eq_false (by omega)
  have e2 : (!decide (d.side = 0) && !decide (d.side = 1)) = false := by rcases hs with h | h <;> simp [h]
  (repeat' (first | refine NextAt.mk (fun hc => ?_) (fun pre n v post hc hkey => ?_) | refine Sni.mk (fun hc => ?_) ?_ | refine Both.mk ?_ ?_ | refine AW_seq ?_ | refine AW_block ?_ | ((first | refine AW_reg ?_ | refine AW_cond ?_ | refine AW_skip ?_ | refine AW_exit ?_ | refine AW_ret ?_ | refine AW_regD (by kernel_rfl) ?_ | refine AW_regX (by kernel_rfl) ?_ | refine CallAtG.t (Eq.refl true) ?_ | refine CallAtG.f (Eq.refl false) ?_ | refine CallAt.mk _ (g32 ..) (by first | (intro h; cases h; done) | (intro _; repeat' (first | exact List.forall_mem_nil _ | trivial | refine List.forall_mem_cons.2 ⟨?_, ?_⟩)) | (intro _; simp [RV.flatP, CD.flatP, e1, e2]; done)) ?_ | refine CallAtG.mk _ (fun _ => g32 ..) ?_ | refine CallDS.mk _ (by simp [RV.data]) (fun _ => g32 ..) (by first | (intro h; cases h; done) | (intro _; repeat' (first | exact List.forall_mem_nil _ | trivial | refine List.forall_mem_cons.2 ⟨?_, ?_⟩)) | (intro _; simp [RV.flatP, CD.flatP, e1, e2]; done)) ?_); try simp (disch := omega) only [go_sem, seval, reduceCtorEq, ↓reduceIte, beq_dec, Int.toNat_natCast, IntKind.signed, IntKind.bits, e1, e2]) | refine And.intro (fun hc => (?_ : AW _ _ _ _)) (fun hc => (?_ : AW _ _ _ _)) | simp (disch := omega) only [go_sem, seval, reduceCtorEq, ↓reduceIte, beq_dec, Int.toNat_natCast, IntKind.signed, IntKind.bits, e1, e2] | (refine And.intro ?_ ?_; focus (first | (intros; omega) | (intros; simp_all; done))) | refine And.intro (?_ : CallAt _ _ _ _ _ _ _ _) ?_ | refine And.intro (?_ : CallAt _ _ _ _ _ _ _ _ ∧ _) ?_ | refine And.intro (?_ : AW _ _ _ _) ?_ | fail))
  refine AW_loopK [3, 22, 23] [5, 7, 24, 25, 26, 27, 28, 29, 30, 31, 32, 33, 34, 35, 36, 37] (fun i : Nat => i ≤ g.links.length) (fun i => [(24, .I i), (5, .I (degI (g.links.take i) d))]) (fun _ => []) (fun i => g.links.length - i) 0 (by omega) ?_ ?_
  · simp (disch := omega) only [go_sem, seval, reduceCtorEq, ↓reduceIte, beq_dec, Int.toNat_natCast, IntKind.signed, IntKind.bits, Int.natCast_zero, List.take_zero, degI, List.filter_nil, List.length_nil]
  · intro i hi
    have hle := degI_le g.links d i hi
    rcases Nat.lt_or_ge i g.links.length with hil | hil
    · have s1 := degI_take g.links d i hil
      have g45 := n45 (nth g.links i) d.side
      generalize endD (nth g.links i) d.side = z at *
      (repeat' (first | refine NextAt.mk (fun hc => ?_) (fun pre n v post hc hkey => ?_) | refine Sni.mk (fun hc => ?_) ?_ | refine Both.mk ?_ ?_ | refine AW_seq ?_ | refine AW_block ?_ | ((first | refine AW_reg ?_ | refine AW_cond ?_ | refine AW_skip ?_ | refine AW_exit ?_ | refine AW_ret ?_ | refine AW_regD (by kernel_rfl) ?_ | refine AW_regX (by kernel_rfl) ?_ | refine CallAtG.t (Eq.refl true) ?_ | refine CallAtG.f (Eq.refl false) ?_ | refine CallAt.mk _ (g45 ..) (by first | (intro h; cases h; done) | (intro _; repeat' (first | exact List.forall_mem_nil _ | trivial | refine List.forall_mem_cons.2 ⟨?_, ?_⟩)) | (intro _; simp [RV.flatP, CD.flatP, List.length_map, getD_map Lk.cd, Lk.cd, inK]; done)) ?_ | refine CallAtG.mk _ (fun _ => g45 ..) ?_ | refine CallDS.mk _ (by simp [RV.data]) (fun _ => g45 ..) (by first | (intro h; cases h; done) | (intro _; repeat' (first | exact List.forall_mem_nil _ | trivial | refine List.forall_mem_cons.2 ⟨?_, ?_⟩)) | (intro _; simp [RV.flatP, CD.flatP, List.length_map, getD_map Lk.cd, Lk.cd, inK]; done)) ?_); try simp (disch := omega) only [go_sem, seval, reduceCtorEq, ↓reduceIte, beq_dec, Int.toNat_natCast, IntKind.signed, IntKind.bits, List.length_map, getD_map Lk.cd, Lk.cd, inK]) | refine And.intro (fun hc => (?_ : AW _ _ _ _)) (fun hc => (?_ : AW _ _ _ _)) | simp (disch := omega) only [go_sem, seval, reduceCtorEq, ↓reduceIte, beq_dec, Int.toNat_natCast, IntKind.signed, IntKind.bits, List.length_map, getD_map Lk.cd, Lk.cd, inK] | (refine And.intro ?_ ?_; focus (first | (intros; omega) | (intros; simp_all; done))) | refine And.intro (?_ : CallAt _ _ _ _ _ _ _ _) ?_ | refine And.intro (?_ : CallAt _ _ _ _ _ _ _ _ ∧ _) ?_ | refine And.intro (?_ : AW _ _ _ _) ?_ | fail))
      · rw [if_pos (by assumption)] at s1
        refine .mk (i + 1) (by omega) (by omega) ?_
        rw [s1]
        simp (disch := omega) only [go_sem, seval, reduceCtorEq, ↓reduceIte, beq_dec, Int.toNat_natCast, IntKind.signed, IntKind.bits, Int.natCast_add, Int.natCast_one]
      · rw [if_neg (by assumption)] at s1
        refine .mk (i + 1) (by omega) (by omega) ?_
        rw [s1]
        simp (disch := omega) only [go_sem, seval, reduceCtorEq, ↓reduceIte, beq_dec, Int.toNat_natCast, IntKind.signed, IntKind.bits, Int.natCast_add, Int.natCast_one, Nat.add_zero]
      · exfalso; omega
    · obtain rfl : i = g.links.length := by omega
      rw [List.take_length]
      (repeat' (first | refine NextAt.mk (fun hc => ?_) (fun pre n v post hc hkey => ?_) | refine Sni.mk (fun hc => ?_) ?_ | refine Both.mk ?_ ?_ | refine AW_seq ?_ | refine AW_block ?_ | ((first | refine AW_reg ?_ | refine AW_cond ?_ | refine AW_skip ?_ | refine AW_exit ?_ | refine AW_ret ?_ | refine AW_regD (by kernel_rfl) ?_ | refine AW_regX (by kernel_rfl) ?_ | refine CallAtG.t (Eq.refl true) ?_ | refine CallAtG.f (Eq.refl false) ?_); try simp (disch := omega) only [go_sem, seval, reduceCtorEq, ↓reduceIte, beq_dec, Int.toNat_natCast, IntKind.signed, IntKind.bits, List.length_map]) | refine And.intro (fun hc => (?_ : AW _ _ _ _)) (fun hc => (?_ : AW _ _ _ _)) | simp (disch := omega) only [go_sem, seval, reduceCtorEq, ↓reduceIte, beq_dec, Int.toNat_natCast, IntKind.signed, IntKind.bits, List.length_map] | (refine And.intro ?_ ?_; focus (first | (intros; omega) | (intros; simp_all; done))) | refine And.intro (?_ : CallAt _ _ _ _ _ _ _ _) ?_ | refine And.intro (?_ : CallAt _ _ _ _ _ _ _ _ ∧ _) ?_ | refine And.intro (?_ : AW _ _ _ _) ?_ | fail))
      · exfalso; omega
/-! ### joined -/
abbrev dsR (M : BM) : List (List CD) := M.map fun p => p.1.cd
theorem dsR_app (M : BM) (d : Die) (v : Int) : dsR (M ++ [(d, v)]) = dsR M ++ [[CD.I d.side, CD.I d.num]] := by unfold dsR; rw [List.map_append]; rfl
/-- the list after some links -/
def flI (out : List Int) (ls : List Lk) (d : Die) (v : Int) (M : BM) (i : Nat) : BM := (notIn out (ls.take i)).foldl (addL d v) M
theorem flI_succ (out : List Int) (ls : List Lk) (d : Die) (v : Int) (M : BM) (i : Nat) (h : i < ls.length) : flI out ls d v M (i + 1) = if (nth ls i).id ∈ out then flI out ls d v M i else addL d v (flI out ls d v M i) (nth ls i) := by
  unfold flI
  rw [notIn_take h]
  split
  · rw [List.append_nil]
  · rw [List.foldl_append]; rfl
theorem flI_inv {out : List Int} {ls : List Lk} {s : Die} {h : Nat} {M : BM} {d : Die} {v : Int} (hi : BInv (notIn out ls) s h M) (hd : M[h]? = some (d, v)) (i : Nat) : BInv (notIn out ls) s h (flI out ls d v M i) ∧ (flI out ls d v M i)[h]? = some (d, v) := by
  obtain ⟨a, b, _⟩ := BInv.links (notIn out (ls.take i)) M (fun l hl => notIn_sub l hl) hi hd
  exact ⟨a, b⟩
theorem blen_le {g : List Lk} {s : Die} {h : Nat} {M : BM} (hi : BInv g s h M) : M.length ≤ 2 * g.length + 1 := by
  have := nodup_le (l := keysB M) (m := s :: (g.map Lk.o ++ g.map Lk.r)) hi.nd fun x hx => by
    rcases hi.sub x hx with e | ⟨l, hl, e | e⟩
    · simp [e]
    · simp only [List.mem_cons, List.mem_append, List.mem_map]; exact .inr (.inl ⟨l, hl, e.symm⟩)
    · simp only [List.mem_cons, List.mem_append, List.mem_map]; exact .inr (.inr ⟨l, hl, e.symm⟩)
  unfold keysB at this
  simp at this; omega
theorem notIn_len (out : List Int) (ls : List Lk) : (notIn out ls).length ≤ ls.length := List.length_filter_le _ _
theorem across_side {l : Lk} {d y : Die} (h : across l d = some y) : y = if d.side = 1 then l.o else l.r := by
  rcases across_iff.1 h with ⟨rfl, rfl⟩ | ⟨rfl, rfl⟩
  · rw [if_neg (by simp [Lk.o])]
  · rw [if_pos (by simp [Lk.r])]
theorem getD_dsR {M : BM} {h : Nat} {d : Die} {v : Int} (hd : M[h]? = some (d, v)) : (dsR M).getD h [] = [CD.I d.side, CD.I d.num] := by
  unfold dsR
  rw [List.getD_eq_getElem?_getD, List.getElem?_map, hd]; rfl
structure Wj where
  (i : Nat) (k : Bool)
set_option maxHeartbeats 16000000 in
theorem n24 (g : Gr) (out : List Int) (a b : Die) (hl : g.links.length ≤ 64) : FnR Try.prog 24 [g.av, .c (Row out), a.av, b.av] [.c (.B (decide (Jn (notIn out g.links) a b)))] := by
  have hnl := notIn_len out g.links
  refine fn_walk code24 (by simp) ?_
  (repeat' (first | refine NextAt.mk (fun hc => ?_) (fun pre n v post hc hkey => ?_) | refine Sni.mk (fun hc => ?_) ?_ | refine Both.mk ?_ ?_ | refine AW_seq ?_ | refine AW_block ?_ | ((first | refine AW_reg ?_ | refine AW_cond ?_ | refine AW_skip ?_ | refine AW_exit ?_ | refine AW_ret ?_ | refine AW_regD (by kernel_rfl) ?_ | refine AW_regX (by kernel_rfl) ?_ | refine CallAtG.t (Eq.refl true) ?_ | refine CallAtG.f (Eq.refl false) ?_); try simp (disch := omega) only [go_sem, seval, reduceCtorEq, ↓reduceIte, beq_dec, Int.toNat_natCast, IntKind.signed, IntKind.bits]) | refine And.intro (fun hc => (?_ : AW _ _ _ _)) (fun hc => (?_ : AW _ _ _ _)) | simp (disch := omega) only [go_sem, seval, reduceCtorEq, ↓reduceIte, beq_dec, Int.toNat_natCast, IntKind.signed, IntKind.bits] | (refine And.intro ?_ ?_; focus (first | (intros; omega) | (intros; simp_all; done))) | refine And.intro (?_ : CallAt _ _ _ _ _ _ _ _) ?_ | refine And.intro (?_ : CallAt _ _ _ _ _ _ _ _ ∧ _) ?_ | refine And.intro (?_ : AW _ _ _ _) ?_ | fail))
  refine AW_loopK [1, 4, 7] [9, 10, 11, 12, 13, 14, 15, 19, 20, 21, 22, 23, 24, 25, 26, 27, 28, 29, 30, 31, 32, 33, 34, 35, 36, 37, 38, 39, 40, 41, 42, 43, 44, 45, 46, 47, 48, 49, 50, 51, 52, 53, 54, 55, 56, 57, 58, 59, 60, 61, 62, 63, 64, 65, 66, 67, 68, 69, 70, 71, 72, 73, 74, 75, 76, 77, 78, 79, 80, 81, 82] (fun h : Nat => h ≤ (bfsN (notIn out g.links) a h).length) (fun h => [(10, .I h), (9, .own 18)]) (fun h => [(18, .arr 27 2 (dsR (bfsN (notIn out g.links) a h)))]) (fun h => 2 * (notIn out g.links).length + 1 - h) 0 (by simp [bfsN]) ?_ ?_
  · simp (disch := omega) only [go_sem, seval, reduceCtorEq, ↓reduceIte, beq_dec, Int.toNat_natCast, IntKind.signed, IntKind.bits, bfsN, List.map_cons, List.map_nil, Die.cd, Int.natCast_zero]
  · intro h hh
    have hi := bfs_inv (notIn out g.links) a h hh
    have hb := blen_le hi
    rcases Nat.lt_or_ge h (bfsN (notIn out g.links) a h).length with hlt | hge
    · obtain ⟨d, v, hd⟩ : ∃ d v, (bfsN (notIn out g.links) a h)[h]? = some (d, v) := ⟨_, _, List.getElem?_eq_getElem hlt⟩
      have hnext : bfsN (notIn out g.links) a (h + 1) = flI out g.links d v (bfsN (notIn out g.links) a h) g.links.length := by
        show bfsS (notIn out g.links) h (bfsN (notIn out g.links) a h) = _
        unfold bfsS flI
        have : headB (bfsN (notIn out g.links) a h) h = (d, v) := by unfold headB; rw [List.getD_eq_getElem?_getD, hd]; rfl
        rw [if_pos hlt, this, List.take_length]
      generalize bfsN (notIn out g.links) a h = M at *
      (repeat' (first | refine NextAt.mk (fun hc => ?_) (fun pre n v post hc hkey => ?_) | refine Sni.mk (fun hc => ?_) ?_ | refine Both.mk ?_ ?_ | refine AW_seq ?_ | refine AW_block ?_ | ((first | refine AW_reg ?_ | refine AW_cond ?_ | refine AW_skip ?_ | refine AW_exit ?_ | refine AW_ret ?_ | refine AW_regD (by kernel_rfl) ?_ | refine AW_regX (by kernel_rfl) ?_ | refine CallAtG.t (Eq.refl true) ?_ | refine CallAtG.f (Eq.refl false) ?_); try simp (disch := omega) only [go_sem, seval, reduceCtorEq, ↓reduceIte, beq_dec, Int.toNat_natCast, IntKind.signed, IntKind.bits, List.length_map]) | refine And.intro (fun hc => (?_ : AW _ _ _ _)) (fun hc => (?_ : AW _ _ _ _)) | simp (disch := omega) only [go_sem, seval, reduceCtorEq, ↓reduceIte, beq_dec, Int.toNat_natCast, IntKind.signed, IntKind.bits, List.length_map] | (refine And.intro ?_ ?_; focus (first | (intros; omega) | (intros; simp_all; done))) | refine And.intro (?_ : CallAt _ _ _ _ _ _ _ _) ?_ | refine And.intro (?_ : CallAt _ _ _ _ _ _ _ _ ∧ _) ?_ | refine And.intro (?_ : AW _ _ _ _) ?_ | fail))
      · refine AW_loopK [1, 4, 7, 10] [9, 11, 12, 13, 14, 15, 25, 26, 27, 28, 29, 30, 31, 32, 33, 34, 35, 36, 37, 38, 39, 40, 41, 42, 43, 44, 45, 46, 47, 48, 49, 50, 51, 52, 53, 54, 55, 56, 57, 58, 59, 60, 61, 62, 63, 64, 65, 66, 67, 68, 69, 70, 71, 72, 73, 74, 75, 76, 77, 78, 79, 80, 81, 82] (fun i : Nat => i ≤ g.links.length) (fun i => [(9, .own 18), (11, .I i)]) (fun i => [(18, .arr 27 2 (dsR (flI out g.links d v M i)))]) (fun i => g.links.length - i) 0 (by omega) ?_ ?_
        · simp (disch := omega) only [go_sem, seval, reduceCtorEq, ↓reduceIte, beq_dec, Int.toNat_natCast, IntKind.signed, IntKind.bits, Int.natCast_zero, flI, List.take_zero, notIn, List.filter_nil, List.foldl_nil]
        · intro i hi'
          obtain ⟨b1, b2⟩ := flI_inv hi hd i
          have hll := blen_le b1
          have hhl := (List.getElem?_eq_some_iff.1 b2).1
          have hgd := getD_dsR b2
          rcases Nat.lt_or_ge i g.links.length with hil | hil
          · have hsuc := flI_succ out g.links d v M i hil
            have g47 := n47 (nth g.links i) d
            have g21 := f60 out (nth g.links i).id
            generalize flI out g.links d v M i = N at *
            have hdl : (dsR N).length = N.length := by simp
            by_cases ho : (nth g.links i).id ∈ out
            · rw [if_pos ho] at hsuc
              rw [decide_eq_true ho] at g21
              (repeat' (first | refine NextAt.mk (fun hc => ?_) (fun pre n v post hc hkey => ?_) | refine Sni.mk (fun hc => ?_) ?_ | refine Both.mk ?_ ?_ | refine AW_seq ?_ | refine AW_block ?_ | ((first | refine AW_reg ?_ | refine AW_cond ?_ | refine AW_skip ?_ | refine AW_exit ?_ | refine AW_ret ?_ | refine AW_regD (by kernel_rfl) ?_ | refine AW_regX (by kernel_rfl) ?_ | refine CallAtG.t (Eq.refl true) ?_ | refine CallAtG.f (Eq.refl false) ?_ | refine CallAt.mk _ (g21 ..) (by first | (intro h; cases h; done) | (intro _; repeat' (first | exact List.forall_mem_nil _ | trivial | refine List.forall_mem_cons.2 ⟨?_, ?_⟩)) | (intro _; simp [RV.flatP, CD.flatP, List.length_map, getD_map Lk.cd, Lk.cd, hgd]; done)) ?_ | refine CallAtG.mk _ (fun _ => g21 ..) ?_ | refine CallDS.mk _ (by simp [RV.data]) (fun _ => g21 ..) (by first | (intro h; cases h; done) | (intro _; repeat' (first | exact List.forall_mem_nil _ | trivial | refine List.forall_mem_cons.2 ⟨?_, ?_⟩)) | (intro _; simp [RV.flatP, CD.flatP, List.length_map, getD_map Lk.cd, Lk.cd, hgd]; done)) ?_ | refine CallAt.mk _ (g47 ..) (by first | (intro h; cases h; done) | (intro _; repeat' (first | exact List.forall_mem_nil _ | trivial | refine List.forall_mem_cons.2 ⟨?_, ?_⟩)) | (intro _; simp [RV.flatP, CD.flatP, List.length_map, getD_map Lk.cd, Lk.cd, hgd]; done)) ?_ | refine CallAtG.mk _ (fun _ => g47 ..) ?_ | refine CallDS.mk _ (by simp [RV.data]) (fun _ => g47 ..) (by first | (intro h; cases h; done) | (intro _; repeat' (first | exact List.forall_mem_nil _ | trivial | refine List.forall_mem_cons.2 ⟨?_, ?_⟩)) | (intro _; simp [RV.flatP, CD.flatP, List.length_map, getD_map Lk.cd, Lk.cd, hgd]; done)) ?_); try simp (disch := omega) only [go_sem, seval, reduceCtorEq, ↓reduceIte, beq_dec, Int.toNat_natCast, IntKind.signed, IntKind.bits, List.length_map, getD_map Lk.cd, Lk.cd, hgd]) | refine And.intro (fun hc => (?_ : AW _ _ _ _)) (fun hc => (?_ : AW _ _ _ _)) | simp (disch := omega) only [go_sem, seval, reduceCtorEq, ↓reduceIte, beq_dec, Int.toNat_natCast, IntKind.signed, IntKind.bits, List.length_map, getD_map Lk.cd, Lk.cd, hgd] | (refine And.intro ?_ ?_; focus (first | (intros; omega) | (intros; simp_all; done))) | refine And.intro (?_ : CallAt _ _ _ _ _ _ _ _) ?_ | refine And.intro (?_ : CallAt _ _ _ _ _ _ _ _ ∧ _) ?_ | refine And.intro (?_ : AW _ _ _ _) ?_ | fail))
              · refine .mk (i + 1) (by omega) (by omega) ?_
                rw [hsuc]
                simp (disch := omega) only [go_sem, seval, reduceCtorEq, ↓reduceIte, beq_dec, Int.toNat_natCast, IntKind.signed, IntKind.bits, Int.natCast_add, Int.natCast_one]
              · exfalso; omega
            · rw [if_neg ho] at hsuc
              rw [decide_eq_false ho] at g21
              cases hac : across (nth g.links i) d with
              | none =>
                have hN : addL d v N (nth g.links i) = N := by unfold addL; rw [hac]
                rw [hN] at hsuc
                rw [hac] at g47
                simp only [Option.isSome_none] at g47
                (repeat' (first | refine NextAt.mk (fun hc => ?_) (fun pre n v post hc hkey => ?_) | refine Sni.mk (fun hc => ?_) ?_ | refine Both.mk ?_ ?_ | refine AW_seq ?_ | refine AW_block ?_ | ((first | refine AW_reg ?_ | refine AW_cond ?_ | refine AW_skip ?_ | refine AW_exit ?_ | refine AW_ret ?_ | refine AW_regD (by kernel_rfl) ?_ | refine AW_regX (by kernel_rfl) ?_ | refine CallAtG.t (Eq.refl true) ?_ | refine CallAtG.f (Eq.refl false) ?_ | refine CallAt.mk _ (g21 ..) (by first | (intro h; cases h; done) | (intro _; repeat' (first | exact List.forall_mem_nil _ | trivial | refine List.forall_mem_cons.2 ⟨?_, ?_⟩)) | (intro _; simp [RV.flatP, CD.flatP, List.length_map, getD_map Lk.cd, Lk.cd, hgd]; done)) ?_ | refine CallAtG.mk _ (fun _ => g21 ..) ?_ | refine CallDS.mk _ (by simp [RV.data]) (fun _ => g21 ..) (by first | (intro h; cases h; done) | (intro _; repeat' (first | exact List.forall_mem_nil _ | trivial | refine List.forall_mem_cons.2 ⟨?_, ?_⟩)) | (intro _; simp [RV.flatP, CD.flatP, List.length_map, getD_map Lk.cd, Lk.cd, hgd]; done)) ?_ | refine CallAt.mk _ (g47 ..) (by first | (intro h; cases h; done) | (intro _; repeat' (first | exact List.forall_mem_nil _ | trivial | refine List.forall_mem_cons.2 ⟨?_, ?_⟩)) | (intro _; simp [RV.flatP, CD.flatP, List.length_map, getD_map Lk.cd, Lk.cd, hgd]; done)) ?_ | refine CallAtG.mk _ (fun _ => g47 ..) ?_ | refine CallDS.mk _ (by simp [RV.data]) (fun _ => g47 ..) (by first | (intro h; cases h; done) | (intro _; repeat' (first | exact List.forall_mem_nil _ | trivial | refine List.forall_mem_cons.2 ⟨?_, ?_⟩)) | (intro _; simp [RV.flatP, CD.flatP, List.length_map, getD_map Lk.cd, Lk.cd, hgd]; done)) ?_); try simp (disch := omega) only [go_sem, seval, reduceCtorEq, ↓reduceIte, beq_dec, Int.toNat_natCast, IntKind.signed, IntKind.bits, List.length_map, getD_map Lk.cd, Lk.cd, hgd]) | refine And.intro (fun hc => (?_ : AW _ _ _ _)) (fun hc => (?_ : AW _ _ _ _)) | simp (disch := omega) only [go_sem, seval, reduceCtorEq, ↓reduceIte, beq_dec, Int.toNat_natCast, IntKind.signed, IntKind.bits, List.length_map, getD_map Lk.cd, Lk.cd, hgd] | (refine And.intro ?_ ?_; focus (first | (intros; omega) | (intros; simp_all; done))) | refine And.intro (?_ : CallAt _ _ _ _ _ _ _ _) ?_ | refine And.intro (?_ : CallAt _ _ _ _ _ _ _ _ ∧ _) ?_ | refine And.intro (?_ : AW _ _ _ _) ?_ | fail))
                · refine .mk (i + 1) (by omega) (by omega) ?_
                  rw [hsuc]
                  simp (disch := omega) only [go_sem, seval, reduceCtorEq, ↓reduceIte, beq_dec, Int.toNat_natCast, IntKind.signed, IntKind.bits, Int.natCast_add, Int.natCast_one]
                · exfalso; omega
              | some y =>
                have hy := across_side hac
                rw [hac] at g47
                simp only [Option.isSome_some] at g47
                have hN : addL d v N (nth g.links i) = if y ∈ keysB N then N else N ++ [(y, v + 1)] := by unfold addL; rw [hac]
                rw [hN] at hsuc
                by_cases hs : d.side = 1
                · have hyv : y = ⟨0, (nth g.links i).obv⟩ := by rw [hy]; rw [if_pos hs]; rfl
                  have e1 : (d.side = 1) = True := eq_true hs
                  (repeat' (first | refine NextAt.mk (fun hc => ?_) (fun pre n v post hc hkey => ?_) | refine Sni.mk (fun hc => ?_) ?_ | refine Both.mk ?_ ?_ | refine AW_seq ?_ | refine AW_block ?_ | ((first | refine AW_reg ?_ | refine AW_cond ?_ | refine AW_skip ?_ | refine AW_exit ?_ | refine AW_ret ?_ | refine AW_regD (by kernel_rfl) ?_ | refine AW_regX (by kernel_rfl) ?_ | refine CallAtG.t (Eq.refl true) ?_ | refine CallAtG.f (Eq.refl false) ?_ | refine CallAt.mk _ (g21 ..) (by first | (intro h; cases h; done) | (intro _; repeat' (first | exact List.forall_mem_nil _ | trivial | refine List.forall_mem_cons.2 ⟨?_, ?_⟩)) | (intro _; simp [RV.flatP, CD.flatP, List.length_map, getD_map Lk.cd, Lk.cd, hgd, e1]; done)) ?_ | refine CallAtG.mk _ (fun _ => g21 ..) ?_ | refine CallDS.mk _ (by simp [RV.data]) (fun _ => g21 ..) (by first | (intro h; cases h; done) | (intro _; repeat' (first | exact List.forall_mem_nil _ | trivial | refine List.forall_mem_cons.2 ⟨?_, ?_⟩)) | (intro _; simp [RV.flatP, CD.flatP, List.length_map, getD_map Lk.cd, Lk.cd, hgd, e1]; done)) ?_ | refine CallAt.mk _ (g47 ..) (by first | (intro h; cases h; done) | (intro _; repeat' (first | exact List.forall_mem_nil _ | trivial | refine List.forall_mem_cons.2 ⟨?_, ?_⟩)) | (intro _; simp [RV.flatP, CD.flatP, List.length_map, getD_map Lk.cd, Lk.cd, hgd, e1]; done)) ?_ | refine CallAtG.mk _ (fun _ => g47 ..) ?_ | refine CallDS.mk _ (by simp [RV.data]) (fun _ => g47 ..) (by first | (intro h; cases h; done) | (intro _; repeat' (first | exact List.forall_mem_nil _ | trivial | refine List.forall_mem_cons.2 ⟨?_, ?_⟩)) | (intro _; simp [RV.flatP, CD.flatP, List.length_map, getD_map Lk.cd, Lk.cd, hgd, e1]; done)) ?_); try simp (disch := omega) only [go_sem, seval, reduceCtorEq, ↓reduceIte, beq_dec, Int.toNat_natCast, IntKind.signed, IntKind.bits, List.length_map, getD_map Lk.cd, Lk.cd, hgd, e1]) | refine And.intro (fun hc => (?_ : AW _ _ _ _)) (fun hc => (?_ : AW _ _ _ _)) | simp (disch := omega) only [go_sem, seval, reduceCtorEq, ↓reduceIte, beq_dec, Int.toNat_natCast, IntKind.signed, IntKind.bits, List.length_map, getD_map Lk.cd, Lk.cd, hgd, e1] | (refine And.intro ?_ ?_; focus (first | (intros; omega) | (intros; simp_all; done))) | refine And.intro (?_ : CallAt _ _ _ _ _ _ _ _) ?_ | refine And.intro (?_ : CallAt _ _ _ _ _ _ _ _ ∧ _) ?_ | refine And.intro (?_ : AW _ _ _ _) ?_ | fail))
                  · refine AW_loopK [1, 4, 7, 9, 10, 11, 13] [14, 15, 62, 63, 64, 65, 66, 67, 68, 69, 70, 71, 72, 73, 74, 75, 76] (fun j : Nat => j ≤ N.length) (fun j => [(15, .I j), (14, .B (decide (y ∈ (keysB N).take j)))]) (fun _ => []) (fun j => N.length - j) 0 (by omega) ?_ ?_
                    · simp (disch := omega) only [go_sem, seval, reduceCtorEq, ↓reduceIte, beq_dec, Int.toNat_natCast, IntKind.signed, IntKind.bits, Int.natCast_zero, List.take_zero, List.not_mem_nil, decide_false]
                    · intro j hj
                      rcases Nat.lt_or_ge j N.length with hjl | hjl
                      · have hkl : (keysB N).length = N.length := by simp [keysB]
                        have hst : decide (y ∈ (keysB N).take (j + 1)) = (decide (y ∈ (keysB N).take j) || (decide ((nth N j).1.side = 0) && decide ((nth N j).1.num = (nth g.links i).obv))) := by
                          rw [List.take_succ_eq_append_getElem (by omega : j < (keysB N).length), Bool.eq_iff_iff]
                          have : (keysB N)[j]'(by omega) = (nth N j).1 := by rw [nth_eq N j hjl]; simp [keysB]
                          rw [this, hyv]
                          simp only [List.mem_append, List.mem_singleton, Bool.or_eq_true, Bool.and_eq_true, decide_eq_true_eq]
                          constructor
                          · rintro (h1 | h1)
                            · exact .inl h1
                            · exact .inr ⟨(die_ext.1 h1).1.symm, (die_ext.1 h1).2.symm⟩
                          · rintro (h1 | h1)
                            · exact .inl h1
                            · exact .inr (die_ext.2 ⟨h1.1.symm, h1.2.symm⟩)
                        have hgj := getD_map (fun p : Die × Int => p.1.cd) N j [] hjl
                        cases hk : decide (y ∈ (keysB N).take j) with
                        | true =>
                          rw [hk, Bool.true_or] at hst
                          (repeat' (first | refine NextAt.mk (fun hc => ?_) (fun pre n v post hc hkey => ?_) | refine Sni.mk (fun hc => ?_) ?_ | refine Both.mk ?_ ?_ | refine AW_seq ?_ | refine AW_block ?_ | ((first | refine AW_reg ?_ | refine AW_cond ?_ | refine AW_skip ?_ | refine AW_exit ?_ | refine AW_ret ?_ | refine AW_regD (by kernel_rfl) ?_ | refine AW_regX (by kernel_rfl) ?_ | refine CallAtG.t (Eq.refl true) ?_ | refine CallAtG.f (Eq.refl false) ?_); try simp (disch := omega) only [go_sem, seval, reduceCtorEq, ↓reduceIte, beq_dec, Int.toNat_natCast, IntKind.signed, IntKind.bits, List.length_map, hgj, Die.cd]) | refine And.intro (fun hc => (?_ : AW _ _ _ _)) (fun hc => (?_ : AW _ _ _ _)) | simp (disch := omega) only [go_sem, seval, reduceCtorEq, ↓reduceIte, beq_dec, Int.toNat_natCast, IntKind.signed, IntKind.bits, List.length_map, hgj, Die.cd] | (refine And.intro ?_ ?_; focus (first | (intros; omega) | (intros; simp_all; done))) | refine And.intro (?_ : CallAt _ _ _ _ _ _ _ _) ?_ | refine And.intro (?_ : CallAt _ _ _ _ _ _ _ _ ∧ _) ?_ | refine And.intro (?_ : AW _ _ _ _) ?_ | fail))
                          · refine .mk (j + 1) (by omega) (by omega) ?_
                            simp (disch := omega) only [go_sem, seval, reduceCtorEq, ↓reduceIte, beq_dec, Int.toNat_natCast, IntKind.signed, IntKind.bits, Int.natCast_add, Int.natCast_one, hst]
                          all_goals (exfalso; omega)
                        | false =>
                          rw [hk, Bool.false_or] at hst
                          (repeat' (first | refine NextAt.mk (fun hc => ?_) (fun pre n v post hc hkey => ?_) | refine Sni.mk (fun hc => ?_) ?_ | refine Both.mk ?_ ?_ | refine AW_seq ?_ | refine AW_block ?_ | ((first | refine AW_reg ?_ | refine AW_cond ?_ | refine AW_skip ?_ | refine AW_exit ?_ | refine AW_ret ?_ | refine AW_regD (by kernel_rfl) ?_ | refine AW_regX (by kernel_rfl) ?_ | refine CallAtG.t (Eq.refl true) ?_ | refine CallAtG.f (Eq.refl false) ?_); try simp (disch := omega) only [go_sem, seval, reduceCtorEq, ↓reduceIte, beq_dec, Int.toNat_natCast, IntKind.signed, IntKind.bits, List.length_map, hgj, Die.cd]) | refine And.intro (fun hc => (?_ : AW _ _ _ _)) (fun hc => (?_ : AW _ _ _ _)) | simp (disch := omega) only [go_sem, seval, reduceCtorEq, ↓reduceIte, beq_dec, Int.toNat_natCast, IntKind.signed, IntKind.bits, List.length_map, hgj, Die.cd] | (refine And.intro ?_ ?_; focus (first | (intros; omega) | (intros; simp_all; done))) | refine And.intro (?_ : CallAt _ _ _ _ _ _ _ _) ?_ | refine And.intro (?_ : CallAt _ _ _ _ _ _ _ _ ∧ _) ?_ | refine And.intro (?_ : AW _ _ _ _) ?_ | fail))
                          · refine .mk (j + 1) (by omega) (by omega) ?_
                            simp (disch := omega) only [go_sem, seval, reduceCtorEq, ↓reduceIte, beq_dec, Int.toNat_natCast, IntKind.signed, IntKind.bits, Int.natCast_add, Int.natCast_one, hst]
                          all_goals (exfalso; omega)
                      · obtain rfl : j = N.length := by omega
                        have hta : (keysB N).take N.length = keysB N := by
                          rw [List.take_of_length_le]; simp [keysB]
                        rw [hta]
                        by_cases hm : y ∈ keysB N
                        · rw [if_pos hm] at hsuc
                          rw [decide_eq_true hm]
                          (repeat' (first | refine NextAt.mk (fun hc => ?_) (fun pre n v post hc hkey => ?_) | refine Sni.mk (fun hc => ?_) ?_ | refine Both.mk ?_ ?_ | refine AW_seq ?_ | refine AW_block ?_ | ((first | refine AW_reg ?_ | refine AW_cond ?_ | refine AW_skip ?_ | refine AW_exit ?_ | refine AW_ret ?_ | refine AW_regD (by kernel_rfl) ?_ | refine AW_regX (by kernel_rfl) ?_ | refine CallAtG.t (Eq.refl true) ?_ | refine CallAtG.f (Eq.refl false) ?_); try simp (disch := omega) only [go_sem, seval, reduceCtorEq, ↓reduceIte, beq_dec, Int.toNat_natCast, IntKind.signed, IntKind.bits, List.length_map]) | refine And.intro (fun hc => (?_ : AW _ _ _ _)) (fun hc => (?_ : AW _ _ _ _)) | simp (disch := omega) only [go_sem, seval, reduceCtorEq, ↓reduceIte, beq_dec, Int.toNat_natCast, IntKind.signed, IntKind.bits, List.length_map] | (refine And.intro ?_ ?_; focus (first | (intros; omega) | (intros; simp_all; done))) | refine And.intro (?_ : CallAt _ _ _ _ _ _ _ _) ?_ | refine And.intro (?_ : CallAt _ _ _ _ _ _ _ _ ∧ _) ?_ | refine And.intro (?_ : AW _ _ _ _) ?_ | fail))
                          · exfalso; omega
                          · refine .mk (i + 1) (by omega) (by omega) ?_
                            rw [hsuc]
                            simp (disch := omega) only [go_sem, seval, reduceCtorEq, ↓reduceIte, beq_dec, Int.toNat_natCast, IntKind.signed, IntKind.bits, Int.natCast_add, Int.natCast_one]
                        · rw [if_neg hm] at hsuc
                          rw [decide_eq_false hm]
                          (repeat' (first | refine NextAt.mk (fun hc => ?_) (fun pre n v post hc hkey => ?_) | refine Sni.mk (fun hc => ?_) ?_ | refine Both.mk ?_ ?_ | refine AW_seq ?_ | refine AW_block ?_ | ((first | refine AW_reg ?_ | refine AW_cond ?_ | refine AW_skip ?_ | refine AW_exit ?_ | refine AW_ret ?_ | refine AW_regD (by kernel_rfl) ?_ | refine AW_regX (by kernel_rfl) ?_ | refine CallAtG.t (Eq.refl true) ?_ | refine CallAtG.f (Eq.refl false) ?_); try simp (disch := omega) only [go_sem, seval, reduceCtorEq, ↓reduceIte, beq_dec, Int.toNat_natCast, IntKind.signed, IntKind.bits, List.length_map, maxLen]) | refine And.intro (fun hc => (?_ : AW _ _ _ _)) (fun hc => (?_ : AW _ _ _ _)) | simp (disch := omega) only [go_sem, seval, reduceCtorEq, ↓reduceIte, beq_dec, Int.toNat_natCast, IntKind.signed, IntKind.bits, List.length_map, maxLen] | (refine And.intro ?_ ?_; focus (first | (intros; omega) | (intros; simp_all; done))) | refine And.intro (?_ : CallAt _ _ _ _ _ _ _ _) ?_ | refine And.intro (?_ : CallAt _ _ _ _ _ _ _ _ ∧ _) ?_ | refine And.intro (?_ : AW _ _ _ _) ?_ | fail))
                          · exfalso; omega
                          all_goals (
                            refine .mk (i + 1) (by omega) (by omega) ?_
                            rw [hsuc, dsR_app, hyv]
                            simp (disch := omega) only [go_sem, seval, reduceCtorEq, ↓reduceIte, beq_dec, Int.toNat_natCast, IntKind.signed, IntKind.bits, Int.natCast_add, Int.natCast_one])
                  · exfalso; omega
                · have hyv : y = ⟨1, (nth g.links i).rev⟩ := by rw [hy]; rw [if_neg hs]; rfl
                  have e1 : (d.side = 1) = False := eq_false hs
                  (repeat' (first | refine NextAt.mk (fun hc => ?_) (fun pre n v post hc hkey => ?_) | refine Sni.mk (fun hc => ?_) ?_ | refine Both.mk ?_ ?_ | refine AW_seq ?_ | refine AW_block ?_ | ((first | refine AW_reg ?_ | refine AW_cond ?_ | refine AW_skip ?_ | refine AW_exit ?_ | refine AW_ret ?_ | refine AW_regD (by kernel_rfl) ?_ | refine AW_regX (by kernel_rfl) ?_ | refine CallAtG.t (Eq.refl true) ?_ | refine CallAtG.f (Eq.refl false) ?_ | refine CallAt.mk _ (g21 ..) (by first | (intro h; cases h; done) | (intro _; repeat' (first | exact List.forall_mem_nil _ | trivial | refine List.forall_mem_cons.2 ⟨?_, ?_⟩)) | (intro _; simp [RV.flatP, CD.flatP, List.length_map, getD_map Lk.cd, Lk.cd, hgd, e1]; done)) ?_ | refine CallAtG.mk _ (fun _ => g21 ..) ?_ | refine CallDS.mk _ (by simp [RV.data]) (fun _ => g21 ..) (by first | (intro h; cases h; done) | (intro _; repeat' (first | exact List.forall_mem_nil _ | trivial | refine List.forall_mem_cons.2 ⟨?_, ?_⟩)) | (intro _; simp [RV.flatP, CD.flatP, List.length_map, getD_map Lk.cd, Lk.cd, hgd, e1]; done)) ?_ | refine CallAt.mk _ (g47 ..) (by first | (intro h; cases h; done) | (intro _; repeat' (first | exact List.forall_mem_nil _ | trivial | refine List.forall_mem_cons.2 ⟨?_, ?_⟩)) | (intro _; simp [RV.flatP, CD.flatP, List.length_map, getD_map Lk.cd, Lk.cd, hgd, e1]; done)) ?_ | refine CallAtG.mk _ (fun _ => g47 ..) ?_ | refine CallDS.mk _ (by simp [RV.data]) (fun _ => g47 ..) (by first | (intro h; cases h; done) | (intro _; repeat' (first | exact List.forall_mem_nil _ | trivial | refine List.forall_mem_cons.2 ⟨?_, ?_⟩)) | (intro _; simp [RV.flatP, CD.flatP, List.length_map, getD_map Lk.cd, Lk.cd, hgd, e1]; done)) ?_); try simp (disch := omega) only [go_sem, seval, reduceCtorEq, ↓reduceIte, beq_dec, Int.toNat_natCast, IntKind.signed, IntKind.bits, List.length_map, getD_map Lk.cd, Lk.cd, hgd, e1]) | refine And.intro (fun hc => (?_ : AW _ _ _ _)) (fun hc => (?_ : AW _ _ _ _)) | simp (disch := omega) only [go_sem, seval, reduceCtorEq, ↓reduceIte, beq_dec, Int.toNat_natCast, IntKind.signed, IntKind.bits, List.length_map, getD_map Lk.cd, Lk.cd, hgd, e1] | (refine And.intro ?_ ?_; focus (first | (intros; omega) | (intros; simp_all; done))) | refine And.intro (?_ : CallAt _ _ _ _ _ _ _ _) ?_ | refine And.intro (?_ : CallAt _ _ _ _ _ _ _ _ ∧ _) ?_ | refine And.intro (?_ : AW _ _ _ _) ?_ | fail))
                  · refine AW_loopK [1, 4, 7, 9, 10, 11, 13] [14, 15, 62, 63, 64, 65, 66, 67, 68, 69, 70, 71, 72, 73, 74, 75, 76] (fun j : Nat => j ≤ N.length) (fun j => [(15, .I j), (14, .B (decide (y ∈ (keysB N).take j)))]) (fun _ => []) (fun j => N.length - j) 0 (by omega) ?_ ?_
                    · simp (disch := omega) only [go_sem, seval, reduceCtorEq, ↓reduceIte, beq_dec, Int.toNat_natCast, IntKind.signed, IntKind.bits, Int.natCast_zero, List.take_zero, List.not_mem_nil, decide_false]
                    · intro j hj
                      rcases Nat.lt_or_ge j N.length with hjl | hjl
                      · have hkl : (keysB N).length = N.length := by simp [keysB]
                        have hst : decide (y ∈ (keysB N).take (j + 1)) = (decide (y ∈ (keysB N).take j) || (decide ((nth N j).1.side = 1) && decide ((nth N j).1.num = (nth g.links i).rev))) := by
                          rw [List.take_succ_eq_append_getElem (by omega : j < (keysB N).length), Bool.eq_iff_iff]
                          have : (keysB N)[j]'(by omega) = (nth N j).1 := by rw [nth_eq N j hjl]; simp [keysB]
                          rw [this, hyv]
                          simp only [List.mem_append, List.mem_singleton, Bool.or_eq_true, Bool.and_eq_true, decide_eq_true_eq]
                          constructor
                          · rintro (h1 | h1)
                            · exact .inl h1
                            · exact .inr ⟨(die_ext.1 h1).1.symm, (die_ext.1 h1).2.symm⟩
                          · rintro (h1 | h1)
                            · exact .inl h1
                            · exact .inr (die_ext.2 ⟨h1.1.symm, h1.2.symm⟩)
                        have hgj := getD_map (fun p : Die × Int => p.1.cd) N j [] hjl
                        cases hk : decide (y ∈ (keysB N).take j) with
                        | true =>
                          rw [hk, Bool.true_or] at hst
                          (repeat' (first | refine NextAt.mk (fun hc => ?_) (fun pre n v post hc hkey => ?_) | refine Sni.mk (fun hc => ?_) ?_ | refine Both.mk ?_ ?_ | refine AW_seq ?_ | refine AW_block ?_ | ((first | refine AW_reg ?_ | refine AW_cond ?_ | refine AW_skip ?_ | refine AW_exit ?_ | refine AW_ret ?_ | refine AW_regD (by kernel_rfl) ?_ | refine AW_regX (by kernel_rfl) ?_ | refine CallAtG.t (Eq.refl true) ?_ | refine CallAtG.f (Eq.refl false) ?_); try simp (disch := omega) only [go_sem, seval, reduceCtorEq, ↓reduceIte, beq_dec, Int.toNat_natCast, IntKind.signed, IntKind.bits, List.length_map, hgj, Die.cd]) | refine And.intro (fun hc => (?_ : AW _ _ _ _)) (fun hc => (?_ : AW _ _ _ _)) | simp (disch := omega) only [go_sem, seval, reduceCtorEq, ↓reduceIte, beq_dec, Int.toNat_natCast, IntKind.signed, IntKind.bits, List.length_map, hgj, Die.cd] | (refine And.intro ?_ ?_; focus (first | (intros; omega) | (intros; simp_all; done))) | refine And.intro (?_ : CallAt _ _ _ _ _ _ _ _) ?_ | refine And.intro (?_ : CallAt _ _ _ _ _ _ _ _ ∧ _) ?_ | refine And.intro (?_ : AW _ _ _ _) ?_ | fail))
                          · refine .mk (j + 1) (by omega) (by omega) ?_
                            simp (disch := omega) only [go_sem, seval, reduceCtorEq, ↓reduceIte, beq_dec, Int.toNat_natCast, IntKind.signed, IntKind.bits, Int.natCast_add, Int.natCast_one, hst]
                          all_goals (exfalso; omega)
                        | false =>
                          rw [hk, Bool.false_or] at hst
                          (repeat' (first | refine NextAt.mk (fun hc => ?_) (fun pre n v post hc hkey => ?_) | refine Sni.mk (fun hc => ?_) ?_ | refine Both.mk ?_ ?_ | refine AW_seq ?_ | refine AW_block ?_ | ((first | refine AW_reg ?_ | refine AW_cond ?_ | refine AW_skip ?_ | refine AW_exit ?_ | refine AW_ret ?_ | refine AW_regD (by kernel_rfl) ?_ | refine AW_regX (by kernel_rfl) ?_ | refine CallAtG.t (Eq.refl true) ?_ | refine CallAtG.f (Eq.refl false) ?_); try simp (disch := omega) only [go_sem, seval, reduceCtorEq, ↓reduceIte, beq_dec, Int.toNat_natCast, IntKind.signed, IntKind.bits, List.length_map, hgj, Die.cd]) | refine And.intro (fun hc => (?_ : AW _ _ _ _)) (fun hc => (?_ : AW _ _ _ _)) | simp (disch := omega) only [go_sem, seval, reduceCtorEq, ↓reduceIte, beq_dec, Int.toNat_natCast, IntKind.signed, IntKind.bits, List.length_map, hgj, Die.cd] | (refine And.intro ?_ ?_; focus (first | (intros; omega) | (intros; simp_all; done))) | refine And.intro (?_ : CallAt _ _ _ _ _ _ _ _) ?_ | refine And.intro (?_ : CallAt _ _ _ _ _ _ _ _ ∧ _) ?_ | refine And.intro (?_ : AW _ _ _ _) ?_ | fail))
                          · refine .mk (j + 1) (by omega) (by omega) ?_
                            simp (disch := omega) only [go_sem, seval, reduceCtorEq, ↓reduceIte, beq_dec, Int.toNat_natCast, IntKind.signed, IntKind.bits, Int.natCast_add, Int.natCast_one, hst]
                          all_goals (exfalso; omega)
                      · obtain rfl : j = N.length := by omega
                        have hta : (keysB N).take N.length = keysB N := by
                          rw [List.take_of_length_le]; simp [keysB]
                        rw [hta]
                        by_cases hm : y ∈ keysB N
                        · rw [if_pos hm] at hsuc
                          rw [decide_eq_true hm]
                          (repeat' (first | refine NextAt.mk (fun hc => ?_) (fun pre n v post hc hkey => ?_) | refine Sni.mk (fun hc => ?_) ?_ | refine Both.mk ?_ ?_ | refine AW_seq ?_ | refine AW_block ?_ | ((first | refine AW_reg ?_ | refine AW_cond ?_ | refine AW_skip ?_ | refine AW_exit ?_ | refine AW_ret ?_ | refine AW_regD (by kernel_rfl) ?_ | refine AW_regX (by kernel_rfl) ?_ | refine CallAtG.t (Eq.refl true) ?_ | refine CallAtG.f (Eq.refl false) ?_); try simp (disch := omega) only [go_sem, seval, reduceCtorEq, ↓reduceIte, beq_dec, Int.toNat_natCast, IntKind.signed, IntKind.bits, List.length_map]) | refine And.intro (fun hc => (?_ : AW _ _ _ _)) (fun hc => (?_ : AW _ _ _ _)) | simp (disch := omega) only [go_sem, seval, reduceCtorEq, ↓reduceIte, beq_dec, Int.toNat_natCast, IntKind.signed, IntKind.bits, List.length_map] | (refine And.intro ?_ ?_; focus (first | (intros; omega) | (intros; simp_all; done))) | refine And.intro (?_ : CallAt _ _ _ _ _ _ _ _) ?_ | refine And.intro (?_ : CallAt _ _ _ _ _ _ _ _ ∧ _) ?_ | refine And.intro (?_ : AW _ _ _ _) ?_ | fail))
                          · exfalso; omega
                          · refine .mk (i + 1) (by omega) (by omega) ?_
                            rw [hsuc]
                            simp (disch := omega) only [go_sem, seval, reduceCtorEq, ↓reduceIte, beq_dec, Int.toNat_natCast, IntKind.signed, IntKind.bits, Int.natCast_add, Int.natCast_one]
                        · rw [if_neg hm] at hsuc
                          rw [decide_eq_false hm]
                          (repeat' (first | refine NextAt.mk (fun hc => ?_) (fun pre n v post hc hkey => ?_) | refine Sni.mk (fun hc => ?_) ?_ | refine Both.mk ?_ ?_ | refine AW_seq ?_ | refine AW_block ?_ | ((first | refine AW_reg ?_ | refine AW_cond ?_ | refine AW_skip ?_ | refine AW_exit ?_ | refine AW_ret ?_ | refine AW_regD (by kernel_rfl) ?_ | refine AW_regX (by kernel_rfl) ?_ | refine CallAtG.t (Eq.refl true) ?_ | refine CallAtG.f (Eq.refl false) ?_); try simp (disch := omega) only [go_sem, seval, reduceCtorEq, ↓reduceIte, beq_dec, Int.toNat_natCast, IntKind.signed, IntKind.bits, List.length_map, maxLen]) | refine And.intro (fun hc => (?_ : AW _ _ _ _)) (fun hc => (?_ : AW _ _ _ _)) | simp (disch := omega) only [go_sem, seval, reduceCtorEq, ↓reduceIte, beq_dec, Int.toNat_natCast, IntKind.signed, IntKind.bits, List.length_map, maxLen] | (refine And.intro ?_ ?_; focus (first | (intros; omega) | (intros; simp_all; done))) | refine And.intro (?_ : CallAt _ _ _ _ _ _ _ _) ?_ | refine And.intro (?_ : CallAt _ _ _ _ _ _ _ _ ∧ _) ?_ | refine And.intro (?_ : AW _ _ _ _) ?_ | fail))
                          · exfalso; omega
                          all_goals (
                            refine .mk (i + 1) (by omega) (by omega) ?_
                            rw [hsuc, dsR_app, hyv]
                            simp (disch := omega) only [go_sem, seval, reduceCtorEq, ↓reduceIte, beq_dec, Int.toNat_natCast, IntKind.signed, IntKind.bits, Int.natCast_add, Int.natCast_one])
                  · exfalso; omega
          · obtain rfl : i = g.links.length := by omega
            (repeat' (first | refine NextAt.mk (fun hc => ?_) (fun pre n v post hc hkey => ?_) | refine Sni.mk (fun hc => ?_) ?_ | refine Both.mk ?_ ?_ | refine AW_seq ?_ | refine AW_block ?_ | ((first | refine AW_reg ?_ | refine AW_cond ?_ | refine AW_skip ?_ | refine AW_exit ?_ | refine AW_ret ?_ | refine AW_regD (by kernel_rfl) ?_ | refine AW_regX (by kernel_rfl) ?_ | refine CallAtG.t (Eq.refl true) ?_ | refine CallAtG.f (Eq.refl false) ?_); try simp (disch := omega) only [go_sem, seval, reduceCtorEq, ↓reduceIte, beq_dec, Int.toNat_natCast, IntKind.signed, IntKind.bits, List.length_map]) | refine And.intro (fun hc => (?_ : AW _ _ _ _)) (fun hc => (?_ : AW _ _ _ _)) | simp (disch := omega) only [go_sem, seval, reduceCtorEq, ↓reduceIte, beq_dec, Int.toNat_natCast, IntKind.signed, IntKind.bits, List.length_map] | (refine And.intro ?_ ?_; focus (first | (intros; omega) | (intros; simp_all; done))) | refine And.intro (?_ : CallAt _ _ _ _ _ _ _ _) ?_ | refine And.intro (?_ : CallAt _ _ _ _ _ _ _ _ ∧ _) ?_ | refine And.intro (?_ : AW _ _ _ _) ?_ | fail))
            · exfalso; omega
            · refine .mk (h + 1) (by rw [hnext]; exact hhl) (by omega) ?_
              rw [hnext]
              simp (disch := omega) only [go_sem, seval, reduceCtorEq, ↓reduceIte, beq_dec, Int.toNat_natCast, IntKind.signed, IntKind.bits, Int.natCast_add, Int.natCast_one]
      · exfalso; omega
    · have hhe : h = (bfsN (notIn out g.links) a h).length := by omega
      have hA := bfsA_at hhe
      have hJ := jn_keys (g := notIn out g.links) (a := a) (b := b)
      rw [hA] at hJ
      rw [show decide (Jn (notIn out g.links) a b) = decide (b ∈ keysB (bfsN (notIn out g.links) a h)) from decide_eq_decide.2 hJ]
      generalize bfsN (notIn out g.links) a h = M at *
      (repeat' (first | refine NextAt.mk (fun hc => ?_) (fun pre n v post hc hkey => ?_) | refine Sni.mk (fun hc => ?_) ?_ | refine Both.mk ?_ ?_ | refine AW_seq ?_ | refine AW_block ?_ | ((first | refine AW_reg ?_ | refine AW_cond ?_ | refine AW_skip ?_ | refine AW_exit ?_ | refine AW_ret ?_ | refine AW_regD (by kernel_rfl) ?_ | refine AW_regX (by kernel_rfl) ?_ | refine CallAtG.t (Eq.refl true) ?_ | refine CallAtG.f (Eq.refl false) ?_); try simp (disch := omega) only [go_sem, seval, reduceCtorEq, ↓reduceIte, beq_dec, Int.toNat_natCast, IntKind.signed, IntKind.bits, List.length_map]) | refine And.intro (fun hc => (?_ : AW _ _ _ _)) (fun hc => (?_ : AW _ _ _ _)) | simp (disch := omega) only [go_sem, seval, reduceCtorEq, ↓reduceIte, beq_dec, Int.toNat_natCast, IntKind.signed, IntKind.bits, List.length_map] | (refine And.intro ?_ ?_; focus (first | (intros; omega) | (intros; simp_all; done))) | refine And.intro (?_ : CallAt _ _ _ _ _ _ _ _) ?_ | refine And.intro (?_ : CallAt _ _ _ _ _ _ _ _ ∧ _) ?_ | refine And.intro (?_ : AW _ _ _ _) ?_ | fail))
      · exfalso; omega
      refine AW_loopK [7, 9] [8, 16, 83, 84, 85, 86, 87, 88, 89, 90, 91, 92, 93, 94] (fun j : Nat => j ≤ M.length ∧ b ∉ (keysB M).take j) (fun j => [(16, .I j)]) (fun _ => []) (fun j => M.length - j) 0 ⟨by omega, by simp⟩ ?_ ?_
      · simp (disch := omega) only [go_sem, seval, reduceCtorEq, ↓reduceIte, beq_dec, Int.toNat_natCast, IntKind.signed, IntKind.bits, Int.natCast_zero]
      · rintro j ⟨hj, hjb⟩
        have hkl : (keysB M).length = M.length := by simp [keysB]
        rcases Nat.lt_or_ge j M.length with hjl | hjl
        · have hgj := getD_map (fun p : Die × Int => p.1.cd) M j [] hjl
          have hkj : (keysB M)[j]'(by omega) = (nth M j).1 := by rw [nth_eq M j hjl]; simp [keysB]
          (repeat' (first | refine NextAt.mk (fun hc => ?_) (fun pre n v post hc hkey => ?_) | refine Sni.mk (fun hc => ?_) ?_ | refine Both.mk ?_ ?_ | refine AW_seq ?_ | refine AW_block ?_ | ((first | refine AW_reg ?_ | refine AW_cond ?_ | refine AW_skip ?_ | refine AW_exit ?_ | refine AW_ret ?_ | refine AW_regD (by kernel_rfl) ?_ | refine AW_regX (by kernel_rfl) ?_ | refine CallAtG.t (Eq.refl true) ?_ | refine CallAtG.f (Eq.refl false) ?_); try simp (disch := omega) only [go_sem, seval, reduceCtorEq, ↓reduceIte, beq_dec, Int.toNat_natCast, IntKind.signed, IntKind.bits, List.length_map, hgj, Die.cd]) | refine And.intro (fun hc => (?_ : AW _ _ _ _)) (fun hc => (?_ : AW _ _ _ _)) | simp (disch := omega) only [go_sem, seval, reduceCtorEq, ↓reduceIte, beq_dec, Int.toNat_natCast, IntKind.signed, IntKind.bits, List.length_map, hgj, Die.cd] | (refine And.intro ?_ ?_; focus (first | (intros; omega) | (intros; simp_all; done))) | refine And.intro (?_ : CallAt _ _ _ _ _ _ _ _) ?_ | refine And.intro (?_ : CallAt _ _ _ _ _ _ _ _ ∧ _) ?_ | refine And.intro (?_ : AW _ _ _ _) ?_ | fail))
          · have : b ∈ keysB M := by
              have h1 : (nth M j).1 = b := die_ext.2 (by assumption)
              rw [← h1, ← hkj]; exact List.getElem_mem _
            rw [decide_eq_true this]
          · refine .mk (j + 1) ⟨by omega, ?_⟩ (by omega) ?_
            · rw [List.take_succ_eq_append_getElem (by omega : j < (keysB M).length), List.mem_append, List.mem_singleton, hkj]
              rintro (h1 | h1)
              · exact hjb h1
              · have h2 := die_ext.1 h1
                omega
            · simp (disch := omega) only [go_sem, seval, reduceCtorEq, ↓reduceIte, beq_dec, Int.toNat_natCast, IntKind.signed, IntKind.bits, Int.natCast_add, Int.natCast_one]
          all_goals (exfalso; omega)
        · obtain rfl : j = M.length := by omega
          rw [List.take_of_length_le (by omega)] at hjb
          rw [decide_eq_false hjb]
          (repeat' (first | refine NextAt.mk (fun hc => ?_) (fun pre n v post hc hkey => ?_) | refine Sni.mk (fun hc => ?_) ?_ | refine Both.mk ?_ ?_ | refine AW_seq ?_ | refine AW_block ?_ | ((first | refine AW_reg ?_ | refine AW_cond ?_ | refine AW_skip ?_ | refine AW_exit ?_ | refine AW_ret ?_ | refine AW_regD (by kernel_rfl) ?_ | refine AW_regX (by kernel_rfl) ?_ | refine CallAtG.t (Eq.refl true) ?_ | refine CallAtG.f (Eq.refl false) ?_); try simp (disch := omega) only [go_sem, seval, reduceCtorEq, ↓reduceIte, beq_dec, Int.toNat_natCast, IntKind.signed, IntKind.bits, List.length_map]) | refine And.intro (fun hc => (?_ : AW _ _ _ _)) (fun hc => (?_ : AW _ _ _ _)) | simp (disch := omega) only [go_sem, seval, reduceCtorEq, ↓reduceIte, beq_dec, Int.toNat_natCast, IntKind.signed, IntKind.bits, List.length_map] | (refine And.intro ?_ ?_; focus (first | (intros; omega) | (intros; simp_all; done))) | refine And.intro (?_ : CallAt _ _ _ _ _ _ _ _) ?_ | refine And.intro (?_ : CallAt _ _ _ _ _ _ _ _ ∧ _) ?_ | refine And.intro (?_ : AW _ _ _ _) ?_ | fail))
          all_goals (exfalso; omega)
end Go.Proofs.Ytgldpbghbkoolaa

