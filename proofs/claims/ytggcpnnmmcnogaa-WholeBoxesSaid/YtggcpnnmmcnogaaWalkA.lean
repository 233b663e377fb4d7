/-
  Lemmas for the proof: no statement of its own.
-/
import Derived.Test.YtggcpnnmmcnogaaPlainA
import Derived.Test.YtggcpnnmmcnogaaCutA
import Derived.Test.YtggcpnnmmcnogaaProg
import Derived.KernelRfl
set_option linter.unusedVariables false
set_option linter.unusedSimpArgs false
-- P p_b.txt
open Go Go.AL Go.RowKit
namespace Go.Proofs.Ytggcpnnmmcnogaa
set_option maxRecDepth 20000
/- coinage/years.within -/
abbrev c28_1 : AC := .reg [⟨(some 2), .mv (.k (.B false)), none⟩] false
abbrev c28_2 : AC := .reg [⟨(some 3), .mv (.t 0), none⟩,
  ⟨(some 4), .bin .geq (.t 3) (.k (.I (-9999))), none⟩,
  ⟨(some 5), .mv (.t 4), none⟩,
  ⟨(some 6), .mv (.t 0), (some (5, true))⟩,
  ⟨(some 7), .bin .leq (.t 6) (.k (.I 9999)), (some (5, true))⟩,
  ⟨(some 8), .pick (.t 5) (.t 7) (.k (.B false)), none⟩,
  ⟨(some 2), .mv (.t 8), none⟩] false
abbrev c28_3 : AC := .seq c28_2 .ret
abbrev c28_4 : AC := .seq c28_1 c28_3
abbrev c28 : AC := c28_4
theorem code28 : fnCode Try.prog 28 = some (c28, [2], 9) := by kernel_rfl
/- coinage/years.Valid -/
abbrev c21_1 : AC := .reg [⟨(some 1), .box 36 (some 2) (.t 0), none⟩,
  ⟨(some 2), .mv (.k (.B false)), none⟩] false
abbrev c21_2 : AC := .reg [⟨(some 3), .fad 0 (.t 1), none⟩,
  ⟨(some 4), .ld none (.t 3), none⟩,
  ⟨(some 5), .fad 1 (.t 1), none⟩,
  ⟨(some 6), .ld none (.t 5), none⟩,
  ⟨(some 7), .bin .leq (.t 4) (.t 6), none⟩,
  ⟨(some 8), .mv (.t 7), none⟩,
  ⟨(some 9), .fad 0 (.t 1), (some (8, true))⟩,
  ⟨(some 10), .ld none (.t 9), (some (8, true))⟩,
  ⟨(some 11), .call 28 [(.t 10)], (some (8, true))⟩,
  ⟨(some 12), .pick (.t 8) (.t 11) (.k (.B false)), none⟩,
  ⟨(some 13), .mv (.t 12), none⟩,
  ⟨(some 14), .fad 1 (.t 1), (some (13, true))⟩,
  ⟨(some 15), .ld none (.t 14), (some (13, true))⟩,
  ⟨(some 16), .call 28 [(.t 15)], (some (13, true))⟩,
  ⟨(some 17), .pick (.t 13) (.t 16) (.k (.B false)), none⟩,
  ⟨(some 2), .mv (.t 17), none⟩] false
abbrev c21_3 : AC := .seq c21_2 .ret
abbrev c21_4 : AC := .seq c21_1 c21_3
abbrev c21 : AC := c21_4
theorem code21 : fnCode Try.prog 21 = some (c21, [2], 18) := by kernel_rfl
/- coinage/years.Meet -/
abbrev c10_1 : AC := .reg [⟨(some 2), .box 36 (some 2) (.t 0), none⟩,
  ⟨(some 3), .box 36 (some 2) (.t 1), none⟩,
  ⟨(some 4), .alloc 36 [(.I 0), (.I 0)], none⟩,
  ⟨(some 5), .mv (.k (.B false)), none⟩] false
abbrev c10_2 : AC := .reg [⟨(some 7), .fad 0 (.t 2), none⟩,
  ⟨(some 8), .ld none (.t 7), none⟩,
  ⟨(some 9), .fad 0 (.t 3), none⟩,
  ⟨(some 10), .ld none (.t 9), none⟩,
  ⟨(some 11), .minmax true (.t 8) (.t 10), none⟩,
  ⟨(some 12), .fad 1 (.t 2), none⟩,
  ⟨(some 13), .ld none (.t 12), none⟩,
  ⟨(some 14), .fad 1 (.t 3), none⟩,
  ⟨(some 15), .ld none (.t 14), none⟩,
  ⟨(some 16), .minmax false (.t 13) (.t 15), none⟩,
  ⟨(some 17), .build [(.I 0), (.I 0)] [(0, 1, (.t 11)), (1, 1, (.t 16))], none⟩,
  ⟨(some 6), .alloc 36 [(.I 0), (.I 0)], none⟩,
  ⟨none, .st (some 2) (.t 6) (.t 17), none⟩] false
abbrev c10_3 : AC := .reg [⟨(some 18), .ld (some 2) (.t 2), none⟩,
  ⟨(some 19), .call 21 [(.t 18)], none⟩,
  ⟨(some 20), .not (.t 19), none⟩,
  ⟨(some 21), .mv (.t 20), none⟩,
  ⟨(some 22), .ld (some 2) (.t 3), (some (21, false))⟩,
  ⟨(some 23), .call 21 [(.t 22)], (some (21, false))⟩,
  ⟨(some 24), .not (.t 23), (some (21, false))⟩,
  ⟨(some 25), .pick (.t 21) (.k (.B true)) (.t 24), none⟩,
  ⟨(some 26), .mv (.t 25), none⟩,
  ⟨(some 27), .ld (some 2) (.t 6), (some (26, false))⟩,
  ⟨(some 28), .call 21 [(.t 27)], (some (26, false))⟩,
  ⟨(some 29), .not (.t 28), (some (26, false))⟩,
  ⟨(some 30), .pick (.t 26) (.k (.B true)) (.t 29), none⟩] false
abbrev c10_4 : AC := .reg [⟨(some 31), .build [(.I 0), (.I 0)] [], none⟩,
  ⟨none, .st (some 2) (.t 4) (.t 31), none⟩,
  ⟨(some 5), .mv (.k (.B false)), none⟩] false
abbrev c10_5 : AC := .seq c10_4 .ret
abbrev c10_6 : AC := .cond (.t 30) c10_5 .skip
abbrev c10_7 : AC := .seq c10_3 c10_6
abbrev c10_8 : AC := .reg [⟨(some 32), .ld (some 2) (.t 6), none⟩,
  ⟨none, .st (some 2) (.t 4) (.t 32), none⟩,
  ⟨(some 5), .mv (.k (.B true)), none⟩] false
abbrev c10_9 : AC := .seq c10_8 .ret
abbrev c10_10 : AC := .seq c10_7 c10_9
abbrev c10_11 : AC := .seq c10_2 c10_10
abbrev c10_12 : AC := .seq c10_1 c10_11
abbrev c10 : AC := c10_12
theorem code10 : fnCode Try.prog 10 = some (c10, [4000004, 5], 33) := by kernel_rfl
/- cmp.isNaN[int] -/
abbrev c29_1 : AC := .reg [⟨(some 2), .mv (.k (.B false)), none⟩] false
abbrev c29_2 : AC := .reg [⟨(some 3), .mv (.t 0), none⟩,
  ⟨(some 4), .mv (.t 0), none⟩,
  ⟨(some 5), .bin .neq (.t 3) (.t 4), none⟩,
  ⟨(some 2), .mv (.t 5), none⟩] false
abbrev c29_3 : AC := .seq c29_2 .ret
abbrev c29_4 : AC := .seq c29_1 c29_3
abbrev c29 : AC := c29_4
theorem code29 : fnCode Try.prog 29 = some (c29, [2], 6) := by kernel_rfl
/- cmp.Compare[int] -/
abbrev c22_1 : AC := .reg [⟨(some 4), .mv (.k (.I 0)), none⟩] false
abbrev c22_2 : AC := .reg [⟨(some 7), .mv (.t 0), none⟩,
  ⟨(some 8), .call 29 [(.t 7)], none⟩,
  ⟨(some 5), .mv (.t 8), none⟩] false
abbrev c22_3 : AC := .reg [⟨(some 9), .mv (.t 1), none⟩,
  ⟨(some 10), .call 29 [(.t 9)], none⟩,
  ⟨(some 6), .mv (.t 10), none⟩] false
abbrev c22_4 : AC := .reg [⟨(some 11), .mv (.t 5), none⟩] false
abbrev c22_5 : AC := .reg [⟨(some 12), .mv (.t 6), none⟩] false
abbrev c22_6 : AC := .reg [⟨(some 4), .mv (.k (.I 0)), none⟩] false
abbrev c22_7 : AC := .seq c22_6 .ret
abbrev c22_8 : AC := .cond (.t 12) c22_7 .skip
abbrev c22_9 : AC := .seq c22_5 c22_8
abbrev c22_10 : AC := .reg [⟨(some 4), .mv (.k (.I (-1))), none⟩] false
abbrev c22_11 : AC := .seq c22_10 .ret
abbrev c22_12 : AC := .seq c22_9 c22_11
abbrev c22_13 : AC := .cond (.t 11) c22_12 .skip
abbrev c22_14 : AC := .seq c22_4 c22_13
abbrev c22_15 : AC := .reg [⟨(some 13), .mv (.t 6), none⟩] false
abbrev c22_16 : AC := .reg [⟨(some 4), .mv (.k (.I 1)), none⟩] false
abbrev c22_17 : AC := .seq c22_16 .ret
abbrev c22_18 : AC := .cond (.t 13) c22_17 .skip
abbrev c22_19 : AC := .seq c22_15 c22_18
abbrev c22_20 : AC := .reg [⟨(some 14), .mv (.t 0), none⟩,
  ⟨(some 15), .mv (.t 1), none⟩,
  ⟨(some 16), .bin .lss (.t 14) (.t 15), none⟩] false
abbrev c22_21 : AC := .reg [⟨(some 4), .mv (.k (.I (-1))), none⟩] false
abbrev c22_22 : AC := .seq c22_21 .ret
abbrev c22_23 : AC := .cond (.t 16) c22_22 .skip
abbrev c22_24 : AC := .seq c22_20 c22_23
abbrev c22_25 : AC := .reg [⟨(some 17), .mv (.t 0), none⟩,
  ⟨(some 18), .mv (.t 1), none⟩,
  ⟨(some 19), .bin .gtr (.t 17) (.t 18), none⟩] false
abbrev c22_26 : AC := .reg [⟨(some 4), .mv (.k (.I 1)), none⟩] false
abbrev c22_27 : AC := .seq c22_26 .ret
abbrev c22_28 : AC := .cond (.t 19) c22_27 .skip
abbrev c22_29 : AC := .seq c22_25 c22_28
abbrev c22_30 : AC := .reg [⟨(some 4), .mv (.k (.I 0)), none⟩] false
abbrev c22_31 : AC := .seq c22_30 .ret
abbrev c22_32 : AC := .seq c22_29 c22_31
abbrev c22_33 : AC := .seq c22_24 c22_32
abbrev c22_34 : AC := .seq c22_19 c22_33
abbrev c22_35 : AC := .seq c22_14 c22_34
abbrev c22_36 : AC := .seq c22_3 c22_35
abbrev c22_37 : AC := .seq c22_2 c22_36
abbrev c22_38 : AC := .seq c22_1 c22_37
abbrev c22 : AC := c22_38
theorem code22 : fnCode Try.prog 22 = some (c22, [4], 20) := by kernel_rfl
/- coinage/years.Relation -/
abbrev c9_1 : AC := .reg [⟨(some 2), .box 36 (some 2) (.t 0), none⟩,
  ⟨(some 3), .box 36 (some 2) (.t 1), none⟩,
  ⟨(some 4), .mv (.k (.I 0)), none⟩] false
abbrev c9_2 : AC := .reg [⟨(some 7), .ld (some 2) (.t 2), none⟩,
  ⟨(some 8), .call 21 [(.t 7)], none⟩,
  ⟨(some 9), .not (.t 8), none⟩,
  ⟨(some 10), .mv (.t 9), none⟩,
  ⟨(some 11), .ld (some 2) (.t 3), (some (10, false))⟩,
  ⟨(some 12), .call 21 [(.t 11)], (some (10, false))⟩,
  ⟨(some 13), .not (.t 12), (some (10, false))⟩,
  ⟨(some 14), .pick (.t 10) (.k (.B true)) (.t 13), none⟩] false
abbrev c9_3 : AC := .reg [⟨(some 4), .mv (.k (.I 0)), none⟩] false
abbrev c9_4 : AC := .seq c9_3 .ret
abbrev c9_5 : AC := .cond (.t 14) c9_4 .skip
abbrev c9_6 : AC := .seq c9_2 c9_5
abbrev c9_7 : AC := .regD [(⟨(some 15), .fad 0 (.t 2), none⟩, [2]),
  (⟨(some 16), .ld none (.t 15), none⟩, [15]),
  (⟨(some 17), .fad 0 (.t 3), none⟩, [3]),
  (⟨(some 18), .ld none (.t 17), none⟩, [17]),
  (⟨(some 19), .call 22 [(.t 16), (.t 18)], none⟩, [16, 18]),
  (⟨(some 20), .fad 1 (.t 2), none⟩, [2]),
  (⟨(some 21), .ld none (.t 20), none⟩, [20]),
  (⟨(some 22), .fad 1 (.t 3), none⟩, [3]),
  (⟨(some 23), .ld none (.t 22), none⟩, [22]),
  (⟨(some 24), .call 22 [(.t 21), (.t 23)], none⟩, [21, 23]),
  (⟨(some 5), .mv (.t 19), none⟩, [19]),
  (⟨(some 6), .mv (.t 24), none⟩, [24])]
abbrev c9_8 : AC := .reg [⟨(some 26), .fad 1 (.t 2), none⟩,
  ⟨(some 27), .ld none (.t 26), none⟩,
  ⟨(some 28), .bin .add (.t 27) (.k (.I 1)), none⟩,
  ⟨(some 29), .fad 0 (.t 3), none⟩,
  ⟨(some 30), .ld none (.t 29), none⟩,
  ⟨(some 31), .bin .lss (.t 28) (.t 30), none⟩,
  ⟨(some 25), .mv (.t 31), none⟩] false
abbrev c9_9 : AC := .reg [⟨(some 4), .mv (.k (.I 1)), none⟩] false
abbrev c9_10 : AC := .seq c9_9 .ret
abbrev c9_11 : AC := .reg [⟨(some 33), .fad 1 (.t 2), none⟩,
  ⟨(some 34), .ld none (.t 33), none⟩,
  ⟨(some 35), .bin .add (.t 34) (.k (.I 1)), none⟩,
  ⟨(some 36), .fad 0 (.t 3), none⟩,
  ⟨(some 37), .ld none (.t 36), none⟩,
  ⟨(some 38), .bin .eql (.t 35) (.t 37), none⟩,
  ⟨(some 32), .mv (.t 38), none⟩] false
abbrev c9_12 : AC := .reg [⟨(some 4), .mv (.k (.I 2)), none⟩] false
abbrev c9_13 : AC := .seq c9_12 .ret
abbrev c9_14 : AC := .reg [⟨(some 40), .fad 1 (.t 3), none⟩,
  ⟨(some 41), .ld none (.t 40), none⟩,
  ⟨(some 42), .bin .add (.t 41) (.k (.I 1)), none⟩,
  ⟨(some 43), .fad 0 (.t 2), none⟩,
  ⟨(some 44), .ld none (.t 43), none⟩,
  ⟨(some 45), .bin .lss (.t 42) (.t 44), none⟩,
  ⟨(some 39), .mv (.t 45), none⟩] false
abbrev c9_15 : AC := .reg [⟨(some 4), .mv (.k (.I 13)), none⟩] false
abbrev c9_16 : AC := .seq c9_15 .ret
abbrev c9_17 : AC := .reg [⟨(some 47), .fad 1 (.t 3), none⟩,
  ⟨(some 48), .ld none (.t 47), none⟩,
  ⟨(some 49), .bin .add (.t 48) (.k (.I 1)), none⟩,
  ⟨(some 50), .fad 0 (.t 2), none⟩,
  ⟨(some 51), .ld none (.t 50), none⟩,
  ⟨(some 52), .bin .eql (.t 49) (.t 51), none⟩,
  ⟨(some 46), .mv (.t 52), none⟩] false
abbrev c9_18 : AC := .reg [⟨(some 4), .mv (.k (.I 12)), none⟩] false
abbrev c9_19 : AC := .seq c9_18 .ret
abbrev c9_20 : AC := .reg [⟨(some 54), .mv (.t 5), none⟩,
  ⟨(some 55), .bin .eql (.t 54) (.k (.I 0)), none⟩,
  ⟨(some 56), .mv (.t 55), none⟩,
  ⟨(some 57), .mv (.t 6), (some (56, true))⟩,
  ⟨(some 58), .bin .eql (.t 57) (.k (.I 0)), (some (56, true))⟩,
  ⟨(some 59), .pick (.t 56) (.t 58) (.k (.B false)), none⟩,
  ⟨(some 53), .mv (.t 59), none⟩] false
abbrev c9_21 : AC := .reg [⟨(some 4), .mv (.k (.I 7)), none⟩] false
abbrev c9_22 : AC := .seq c9_21 .ret
abbrev c9_23 : AC := .reg [⟨(some 61), .mv (.t 5), none⟩,
  ⟨(some 62), .bin .eql (.t 61) (.k (.I 0)), none⟩,
  ⟨(some 63), .mv (.t 62), none⟩,
  ⟨(some 64), .mv (.t 6), (some (63, true))⟩,
  ⟨(some 65), .bin .lss (.t 64) (.k (.I 0)), (some (63, true))⟩,
  ⟨(some 66), .pick (.t 63) (.t 65) (.k (.B false)), none⟩,
  ⟨(some 60), .mv (.t 66), none⟩] false
abbrev c9_24 : AC := .reg [⟨(some 4), .mv (.k (.I 4)), none⟩] false
abbrev c9_25 : AC := .seq c9_24 .ret
abbrev c9_26 : AC := .reg [⟨(some 68), .mv (.t 5), none⟩,
  ⟨(some 69), .bin .eql (.t 68) (.k (.I 0)), none⟩,
  ⟨(some 67), .mv (.t 69), none⟩] false
abbrev c9_27 : AC := .reg [⟨(some 4), .mv (.k (.I 10)), none⟩] false
abbrev c9_28 : AC := .seq c9_27 .ret
abbrev c9_29 : AC := .reg [⟨(some 71), .mv (.t 6), none⟩,
  ⟨(some 72), .bin .eql (.t 71) (.k (.I 0)), none⟩,
  ⟨(some 73), .mv (.t 72), none⟩,
  ⟨(some 74), .mv (.t 5), (some (73, true))⟩,
  ⟨(some 75), .bin .gtr (.t 74) (.k (.I 0)), (some (73, true))⟩,
  ⟨(some 76), .pick (.t 73) (.t 75) (.k (.B false)), none⟩,
  ⟨(some 70), .mv (.t 76), none⟩] false
abbrev c9_30 : AC := .reg [⟨(some 4), .mv (.k (.I 6)), none⟩] false
abbrev c9_31 : AC := .seq c9_30 .ret
abbrev c9_32 : AC := .reg [⟨(some 78), .mv (.t 6), none⟩,
  ⟨(some 79), .bin .eql (.t 78) (.k (.I 0)), none⟩,
  ⟨(some 77), .mv (.t 79), none⟩] false
abbrev c9_33 : AC := .reg [⟨(some 4), .mv (.k (.I 8)), none⟩] false
abbrev c9_34 : AC := .seq c9_33 .ret
abbrev c9_35 : AC := .reg [⟨(some 81), .mv (.t 5), none⟩,
  ⟨(some 82), .bin .gtr (.t 81) (.k (.I 0)), none⟩,
  ⟨(some 83), .mv (.t 82), none⟩,
  ⟨(some 84), .mv (.t 6), (some (83, true))⟩,
  ⟨(some 85), .bin .lss (.t 84) (.k (.I 0)), (some (83, true))⟩,
  ⟨(some 86), .pick (.t 83) (.t 85) (.k (.B false)), none⟩,
  ⟨(some 80), .mv (.t 86), none⟩] false
abbrev c9_36 : AC := .reg [⟨(some 4), .mv (.k (.I 5)), none⟩] false
abbrev c9_37 : AC := .seq c9_36 .ret
abbrev c9_38 : AC := .reg [⟨(some 88), .mv (.t 5), none⟩,
  ⟨(some 89), .bin .lss (.t 88) (.k (.I 0)), none⟩,
  ⟨(some 90), .mv (.t 89), none⟩,
  ⟨(some 91), .mv (.t 6), (some (90, true))⟩,
  ⟨(some 92), .bin .gtr (.t 91) (.k (.I 0)), (some (90, true))⟩,
  ⟨(some 93), .pick (.t 90) (.t 92) (.k (.B false)), none⟩,
  ⟨(some 87), .mv (.t 93), none⟩] false
abbrev c9_39 : AC := .reg [⟨(some 4), .mv (.k (.I 9)), none⟩] false
abbrev c9_40 : AC := .seq c9_39 .ret
abbrev c9_41 : AC := .reg [⟨(some 95), .mv (.t 5), none⟩,
  ⟨(some 96), .bin .lss (.t 95) (.k (.I 0)), none⟩,
  ⟨(some 94), .mv (.t 96), none⟩] false
abbrev c9_42 : AC := .reg [⟨(some 4), .mv (.k (.I 3)), none⟩] false
abbrev c9_43 : AC := .seq c9_42 .ret
abbrev c9_44 : AC := .cond (.t 94) c9_43 .skip
abbrev c9_45 : AC := .seq c9_41 c9_44
abbrev c9_46 : AC := .cond (.t 87) c9_40 c9_45
abbrev c9_47 : AC := .seq c9_38 c9_46
abbrev c9_48 : AC := .cond (.t 80) c9_37 c9_47
abbrev c9_49 : AC := .seq c9_35 c9_48
abbrev c9_50 : AC := .cond (.t 77) c9_34 c9_49
abbrev c9_51 : AC := .seq c9_32 c9_50
abbrev c9_52 : AC := .cond (.t 70) c9_31 c9_51
abbrev c9_53 : AC := .seq c9_29 c9_52
abbrev c9_54 : AC := .cond (.t 67) c9_28 c9_53
abbrev c9_55 : AC := .seq c9_26 c9_54
abbrev c9_56 : AC := .cond (.t 60) c9_25 c9_55
abbrev c9_57 : AC := .seq c9_23 c9_56
abbrev c9_58 : AC := .cond (.t 53) c9_22 c9_57
abbrev c9_59 : AC := .seq c9_20 c9_58
abbrev c9_60 : AC := .cond (.t 46) c9_19 c9_59
abbrev c9_61 : AC := .seq c9_17 c9_60
abbrev c9_62 : AC := .cond (.t 39) c9_16 c9_61
abbrev c9_63 : AC := .seq c9_14 c9_62
abbrev c9_64 : AC := .cond (.t 32) c9_13 c9_63
abbrev c9_65 : AC := .seq c9_11 c9_64
abbrev c9_66 : AC := .cond (.t 25) c9_10 c9_65
abbrev c9_67 : AC := .seq c9_8 c9_66
abbrev c9_68 : AC := .block 0 c9_67
abbrev c9_69 : AC := .reg [⟨(some 4), .mv (.k (.I 11)), none⟩] false
abbrev c9_70 : AC := .seq c9_69 .ret
abbrev c9_71 : AC := .seq c9_68 c9_70
abbrev c9_72 : AC := .seq c9_7 c9_71
abbrev c9_73 : AC := .seq c9_6 c9_72
abbrev c9_74 : AC := .seq c9_1 c9_73
abbrev c9 : AC := c9_74
theorem code9 : fnCode Try.prog 9 = some (c9, [4], 97) := by kernel_rfl
/- coinage/coloring.check$1 -/
abbrev c24_1 : AC := .reg [⟨(some 1), .box 36 (some 2) (.t 0), none⟩,
  ⟨(some 2), .mv (.k (.B false)), none⟩] false
abbrev c24_2 : AC := .reg [⟨(some 3), .ld (some 2) (.t 1), none⟩,
  ⟨(some 4), .call 21 [(.t 3)], none⟩,
  ⟨(some 5), .not (.t 4), none⟩,
  ⟨(some 2), .mv (.t 5), none⟩] false
abbrev c24_3 : AC := .seq c24_2 .ret
abbrev c24_4 : AC := .seq c24_1 c24_3
abbrev c24 : AC := c24_4
theorem code24 : fnCode Try.prog 24 = some (c24, [2], 6) := by kernel_rfl
/- slices.IndexFunc[[]coinage/api.Years,coinage/api.Years] -/
abbrev c30_1 : AC := .reg [⟨(some 4), .mv (.k (.I 0)), none⟩] false
abbrev c30_2 : AC := .reg [⟨(some 6), .mv (.t 0), none⟩,
  ⟨(some 7), .len (.t 6), none⟩,
  ⟨(some 8), .mv (.k (.I 0)), none⟩] false
abbrev c30_3 : AC := .reg [⟨(some 9), .bin .lss (.t 8) (.t 7), none⟩] false
abbrev c30_4 : AC := .cond (.t 9) .skip (.exit 0)
abbrev c30_5 : AC := .reg [⟨(some 10), .mv (.t 8), none⟩,
  ⟨(some 5), .mv (.t 10), none⟩] false
abbrev c30_6 : AC := .reg [⟨(some 11), .mv (.t 1), none⟩,
  ⟨(some 12), .mv (.t 0), none⟩,
  ⟨(some 13), .mv (.t 5), none⟩,
  ⟨(some 14), .iad 2 (.t 12) (.t 13), none⟩,
  ⟨(some 15), .ld (some 2) (.t 14), none⟩,
  ⟨(some 16), .callv (.t 11) [(.t 15)], none⟩] false
abbrev c30_7 : AC := .reg [⟨(some 17), .mv (.t 5), none⟩,
  ⟨(some 4), .mv (.t 17), none⟩] false
abbrev c30_8 : AC := .seq c30_7 .ret
abbrev c30_9 : AC := .cond (.t 16) c30_8 .skip
abbrev c30_10 : AC := .seq c30_6 c30_9
abbrev c30_11 : AC := .seq c30_5 c30_10
abbrev c30_12 : AC := .block 1 c30_11
abbrev c30_13 : AC := .reg [⟨(some 18), .bin .add (.t 8) (.k (.I 1)), none⟩,
  ⟨(some 8), .mv (.t 18), none⟩] false
abbrev c30_14 : AC := .seq c30_12 c30_13
abbrev c30_15 : AC := .seq c30_4 c30_14
abbrev c30_16 : AC := .seq c30_3 c30_15
abbrev c30_17 : AC := .loop c30_16
abbrev c30_18 : AC := .block 0 c30_17
abbrev c30_19 : AC := .seq c30_2 c30_18
abbrev c30_20 : AC := .reg [⟨(some 4), .mv (.k (.I (-1))), none⟩] false
abbrev c30_21 : AC := .seq c30_20 .ret
abbrev c30_22 : AC := .seq c30_19 c30_21
abbrev c30_23 : AC := .seq c30_1 c30_22
abbrev c30 : AC := c30_23
theorem code30 : fnCode Try.prog 30 = some (c30, [4], 19) := by kernel_rfl
/- slices.ContainsFunc[[]coinage/api.Years,coinage/api.Years] -/
abbrev c23_1 : AC := .reg [⟨(some 4), .mv (.k (.B false)), none⟩] false
abbrev c23_2 : AC := .reg [⟨(some 5), .mv (.t 0), none⟩,
  ⟨(some 6), .mv (.t 1), none⟩,
  ⟨(some 7), .call 30 [(.t 5), (.t 6)], none⟩,
  ⟨(some 8), .bin .geq (.t 7) (.k (.I 0)), none⟩,
  ⟨(some 4), .mv (.t 8), none⟩] false
abbrev c23_3 : AC := .seq c23_2 .ret
abbrev c23_4 : AC := .seq c23_1 c23_3
abbrev c23 : AC := c23_4
theorem code23 : fnCode Try.prog 23 = some (c23, [4], 9) := by kernel_rfl
/- coinage/coloring.check -/
abbrev c12_1 : AC := .reg [⟨(some 2), .mv (.k (.I 0)), none⟩] false
abbrev c12_2 : AC := .reg [⟨(some 3), .mv (.t 0), none⟩,
  ⟨(some 4), .len (.t 3), none⟩,
  ⟨(some 5), .bin .gtr (.t 4) (.k (.I 12)), none⟩] false
abbrev c12_3 : AC := .reg [⟨(some 2), .mv (.k (.I 6)), none⟩] false
abbrev c12_4 : AC := .seq c12_3 .ret
abbrev c12_5 : AC := .cond (.t 5) c12_4 .skip
abbrev c12_6 : AC := .seq c12_2 c12_5
abbrev c12_7 : AC := .reg [⟨(some 6), .mv (.t 0), none⟩,
  ⟨(some 7), .call 23 [(.t 6), (.k (.fn 24 []))], none⟩] false
abbrev c12_8 : AC := .reg [⟨(some 2), .mv (.k (.I 1)), none⟩] false
abbrev c12_9 : AC := .seq c12_8 .ret
abbrev c12_10 : AC := .cond (.t 7) c12_9 .skip
abbrev c12_11 : AC := .seq c12_7 c12_10
abbrev c12_12 : AC := .reg [⟨(some 2), .mv (.k (.I 0)), none⟩] false
abbrev c12_13 : AC := .seq c12_12 .ret
abbrev c12_14 : AC := .seq c12_11 c12_13
abbrev c12_15 : AC := .seq c12_6 c12_14
abbrev c12_16 : AC := .seq c12_1 c12_15
abbrev c12 : AC := c12_16
theorem code12 : fnCode Try.prog 12 = some (c12, [2], 8) := by kernel_rfl
/- coinage/coloring.Boxes -/
abbrev c6_1 : AC := .reg [⟨(some 2), .mv (.k (.I 0)), none⟩,
  ⟨(some 3), .mv (.k (.I 0)), none⟩] false
abbrev c6_2 : AC := .reg [⟨(some 11), .mv (.t 0), none⟩,
  ⟨(some 12), .call 12 [(.t 11)], none⟩,
  ⟨(some 4), .mv (.t 12), none⟩] false
abbrev c6_3 : AC := .reg [⟨(some 13), .mv (.t 4), none⟩,
  ⟨(some 14), .bin .neq (.t 13) (.k (.I 0)), none⟩] false
abbrev c6_4 : AC := .reg [⟨(some 15), .mv (.t 4), none⟩,
  ⟨(some 2), .mv (.k (.I 0)), none⟩,
  ⟨(some 3), .mv (.t 15), none⟩] false
abbrev c6_5 : AC := .seq c6_4 .ret
abbrev c6_6 : AC := .cond (.t 14) c6_5 .skip
abbrev c6_7 : AC := .seq c6_3 c6_6
abbrev c6_8 : AC := .seq c6_2 c6_7
abbrev c6_9 : AC := .reg [⟨(some 5), .mv (.k (.I 0)), none⟩] false
abbrev c6_10 : AC := .reg [⟨(some 16), .mv (.t 0), none⟩,
  ⟨(some 17), .len (.t 16), none⟩,
  ⟨(some 18), .mv (.k (.I 0)), none⟩] false
abbrev c6_11 : AC := .reg [⟨(some 19), .bin .lss (.t 18) (.t 17), none⟩] false
abbrev c6_12 : AC := .cond (.t 19) .skip (.exit 0)
abbrev c6_13 : AC := .reg [⟨(some 20), .iad 2 (.t 16) (.t 18), none⟩,
  ⟨(some 21), .ld (some 2) (.t 20), none⟩,
  ⟨(some 7), .alloc 36 [(.I 0), (.I 0)], none⟩,
  ⟨none, .st (some 2) (.t 7) (.t 21), none⟩] false
abbrev c6_14 : AC := .reg [⟨(some 8), .mv (.k (.I 0)), none⟩] false
abbrev c6_15 : AC := .reg [⟨(some 22), .mv (.t 0), none⟩,
  ⟨(some 23), .len (.t 22), none⟩,
  ⟨(some 24), .mv (.k (.I 0)), none⟩] false
abbrev c6_16 : AC := .reg [⟨(some 25), .bin .lss (.t 24) (.t 23), none⟩] false
abbrev c6_17 : AC := .cond (.t 25) .skip (.exit 2)
abbrev c6_18 : AC := .reg [⟨(some 26), .iad 2 (.t 22) (.t 24), none⟩,
  ⟨(some 27), .ld (some 2) (.t 26), none⟩,
  ⟨(some 10), .alloc 36 [(.I 0), (.I 0)], none⟩,
  ⟨none, .st (some 2) (.t 10) (.t 27), none⟩] false
abbrev c6_19 : AC := .reg [⟨(some 28), .fad 0 (.t 10), none⟩,
  ⟨(some 29), .ld none (.t 28), none⟩,
  ⟨(some 30), .fad 0 (.t 7), none⟩,
  ⟨(some 31), .ld none (.t 30), none⟩,
  ⟨(some 32), .bin .leq (.t 29) (.t 31), none⟩,
  ⟨(some 33), .mv (.t 32), none⟩,
  ⟨(some 34), .fad 0 (.t 7), (some (33, true))⟩,
  ⟨(some 35), .ld none (.t 34), (some (33, true))⟩,
  ⟨(some 36), .fad 1 (.t 10), (some (33, true))⟩,
  ⟨(some 37), .ld none (.t 36), (some (33, true))⟩,
  ⟨(some 38), .bin .leq (.t 35) (.t 37), (some (33, true))⟩,
  ⟨(some 39), .pick (.t 33) (.t 38) (.k (.B false)), none⟩] false
abbrev c6_20 : AC := .reg [⟨(some 40), .mv (.t 8), none⟩,
  ⟨(some 41), .bin .add (.t 40) (.k (.I 1)), none⟩,
  ⟨(some 8), .mv (.t 41), none⟩] false
abbrev c6_21 : AC := .cond (.t 39) c6_20 .skip
abbrev c6_22 : AC := .seq c6_19 c6_21
abbrev c6_23 : AC := .seq c6_18 c6_22
abbrev c6_24 : AC := .block 3 c6_23
abbrev c6_25 : AC := .reg [⟨(some 42), .bin .add (.t 24) (.k (.I 1)), none⟩,
  ⟨(some 24), .mv (.t 42), none⟩] false
abbrev c6_26 : AC := .seq c6_24 c6_25
abbrev c6_27 : AC := .seq c6_17 c6_26
abbrev c6_28 : AC := .seq c6_16 c6_27
abbrev c6_29 : AC := .loop c6_28
abbrev c6_30 : AC := .block 2 c6_29
abbrev c6_31 : AC := .seq c6_15 c6_30
abbrev c6_32 : AC := .reg [⟨(some 43), .mv (.t 5), none⟩,
  ⟨(some 44), .mv (.t 8), none⟩,
  ⟨(some 45), .minmax true (.t 43) (.t 44), none⟩,
  ⟨(some 5), .mv (.t 45), none⟩] false
abbrev c6_33 : AC := .seq c6_31 c6_32
abbrev c6_34 : AC := .seq c6_14 c6_33
abbrev c6_35 : AC := .seq c6_13 c6_34
abbrev c6_36 : AC := .block 1 c6_35
abbrev c6_37 : AC := .reg [⟨(some 46), .bin .add (.t 18) (.k (.I 1)), none⟩,
  ⟨(some 18), .mv (.t 46), none⟩] false
abbrev c6_38 : AC := .seq c6_36 c6_37
abbrev c6_39 : AC := .seq c6_12 c6_38
abbrev c6_40 : AC := .seq c6_11 c6_39
abbrev c6_41 : AC := .loop c6_40
abbrev c6_42 : AC := .block 0 c6_41
abbrev c6_43 : AC := .seq c6_10 c6_42
abbrev c6_44 : AC := .reg [⟨(some 47), .mv (.t 5), none⟩,
  ⟨(some 2), .mv (.t 47), none⟩,
  ⟨(some 3), .mv (.k (.I 0)), none⟩] false
abbrev c6_45 : AC := .seq c6_44 .ret
abbrev c6_46 : AC := .seq c6_43 c6_45
abbrev c6_47 : AC := .seq c6_9 c6_46
abbrev c6_48 : AC := .seq c6_8 c6_47
abbrev c6_49 : AC := .seq c6_1 c6_48
abbrev c6 : AC := c6_49
theorem code6 : fnCode Try.prog 6 = some (c6, [2, 3], 48) := by kernel_rfl
/- coinage/coinagebase.Pairs -/
abbrev c11_1 : AC := .reg [⟨(some 4), .mv (.k (.B false)), none⟩] false
abbrev c11_2 : AC := .reg [⟨(some 6), .mv (.t 0), none⟩,
  ⟨(some 7), .len (.t 6), none⟩,
  ⟨(some 8), .mv (.t 1), none⟩,
  ⟨(some 9), .len (.t 8), none⟩,
  ⟨(some 10), .bin .neq (.t 7) (.t 9), none⟩] false
abbrev c11_3 : AC := .reg [⟨(some 4), .mv (.k (.B false)), none⟩] false
abbrev c11_4 : AC := .seq c11_3 .ret
abbrev c11_5 : AC := .cond (.t 10) c11_4 .skip
abbrev c11_6 : AC := .seq c11_2 c11_5
abbrev c11_7 : AC := .reg [⟨(some 5), .mv (.k (.I 0)), none⟩] false
abbrev c11_8 : AC := .reg [⟨(some 11), .mv (.t 5), none⟩,
  ⟨(some 12), .mv (.t 0), none⟩,
  ⟨(some 13), .len (.t 12), none⟩,
  ⟨(some 14), .bin .lss (.t 11) (.t 13), none⟩] false
abbrev c11_9 : AC := .cond (.t 14) .skip (.exit 0)
abbrev c11_10 : AC := .seq c11_8 c11_9
abbrev c11_11 : AC := .regD [(⟨(some 17), .mv (.t 0), none⟩, [0]),
  (⟨(some 18), .mv (.t 5), none⟩, [5]),
  (⟨(some 19), .iad 2 (.t 17) (.t 18), none⟩, [17, 18]),
  (⟨(some 20), .ld (some 2) (.t 19), none⟩, [19]),
  (⟨(some 21), .mv (.t 1), none⟩, [1]),
  (⟨(some 22), .mv (.t 5), none⟩, [5]),
  (⟨(some 23), .iad 2 (.t 21) (.t 22), none⟩, [21, 22]),
  (⟨(some 24), .ld (some 2) (.t 23), none⟩, [23]),
  (⟨(some 25), .eqs true [false, false] (.t 20) (.t 24), none⟩, [20, 24])]
abbrev c11_12 : AC := .reg [⟨(some 4), .mv (.k (.B false)), none⟩] false
abbrev c11_13 : AC := .seq c11_12 .ret
abbrev c11_14 : AC := .cond (.t 25) c11_13 .skip
abbrev c11_15 : AC := .seq c11_11 c11_14
abbrev c11_16 : AC := .block 1 c11_15
abbrev c11_17 : AC := .reg [⟨(some 15), .mv (.t 5), none⟩,
  ⟨(some 16), .bin .add (.t 15) (.k (.I 1)), none⟩,
  ⟨(some 5), .mv (.t 16), none⟩] false
abbrev c11_18 : AC := .seq c11_16 c11_17
abbrev c11_19 : AC := .seq c11_10 c11_18
abbrev c11_20 : AC := .loop c11_19
abbrev c11_21 : AC := .block 0 c11_20
abbrev c11_22 : AC := .seq c11_7 c11_21
abbrev c11_23 : AC := .reg [⟨(some 4), .mv (.k (.B true)), none⟩] false
abbrev c11_24 : AC := .seq c11_23 .ret
abbrev c11_25 : AC := .seq c11_22 c11_24
abbrev c11_26 : AC := .seq c11_6 c11_25
abbrev c11_27 : AC := .seq c11_1 c11_26
abbrev c11 : AC := c11_27
theorem code11 : fnCode Try.prog 11 = some (c11, [4], 26) := by kernel_rfl

abbrev yc (y : Yr) : List CD := [.I y.1, .I y.2]
abbrev yv (y : Yr) : AV := .agg [.I y.1, .I y.2]
abbrev Yrs (l : List Yr) : CD := .sl 2 (l.map yc)
abbrev nc (x : Nat) : List CD := [.I (x : Int)]
abbrev NR (c : List Nat) : CD := .sl 1 (c.map nc)
abbrev pc (q : Nat × Nat) : List CD := [.I (q.1 : Int), .I (q.2 : Int)]
abbrev PR (p : List (Nat × Nat)) : CD := .sl 2 (p.map pc)
def wiY (n : Int) : Bool := decide (-9999 ≤ n) && decide (n ≤ 9999)
theorem x28 (n : Int) : FnR Try.prog 28 [.I n] [.c (.B (wiY n))] := by
  refine fn_walk code28 (by simp) ?_
  unfold wiY
  (repeat' (first | refine NextAt.mk (fun hc => ?_) (fun pre n v post hc hkey => ?_) | refine Sni.mk (fun hc => ?_) ?_ | refine Both.mk ?_ ?_ | refine AW_seq ?_ | refine AW_block ?_ | ((first | refine AW_reg ?_ | refine AW_cond ?_ | refine AW_skip ?_ | refine AW_exit ?_ | refine AW_ret ?_ | refine AW_regD (by kernel_rfl) ?_ | refine AW_regX (by kernel_rfl) ?_ | refine CallAtG.t (Eq.refl true) ?_ | refine CallAtG.f (Eq.refl false) ?_); try simp (disch := omega) only [go_sem, seval, reduceCtorEq, ↓reduceIte, beq_dec, Int.toNat_natCast, IntKind.signed, IntKind.bits]) | refine And.intro (fun hc => (?_ : AW _ _ _ _)) (fun hc => (?_ : AW _ _ _ _)) | simp (disch := omega) only [go_sem, seval, reduceCtorEq, ↓reduceIte, beq_dec, Int.toNat_natCast, IntKind.signed, IntKind.bits] | (refine And.intro ?_ ?_; focus (first | (intros; omega) | (intros; simp_all; done))) | refine And.intro (?_ : CallAt _ _ _ _ _ _ _ _) ?_ | refine And.intro (?_ : CallAt _ _ _ _ _ _ _ _ ∧ _) ?_ | refine And.intro (?_ : AW _ _ _ _) ?_ | fail))
def vY (y : Yr) : Bool := decide (y.1 ≤ y.2) && wiY y.1 && wiY y.2
theorem vY_iff {y : Yr} : vY y = true ↔ okY 9999 y := by
  unfold vY wiY okY
  simp only [Bool.and_eq_true, decide_eq_true_eq]
  omega
theorem x21 (y : Yr) : FnR Try.prog 21 [yv y] [.c (.B (vY y))] := by
  refine fn_walk code21 (by simp) ?_
  unfold vY
  (repeat' (first | refine NextAt.mk (fun hc => ?_) (fun pre n v post hc hkey => ?_) | refine Sni.mk (fun hc => ?_) ?_ | refine Both.mk ?_ ?_ | refine AW_seq ?_ | refine AW_block ?_ | ((first | refine AW_reg ?_ | refine AW_cond ?_ | refine AW_skip ?_ | refine AW_exit ?_ | refine AW_ret ?_ | refine AW_regD (by kernel_rfl) ?_ | refine AW_regX (by kernel_rfl) ?_ | refine CallAtG.t (Eq.refl true) ?_ | refine CallAtG.f (Eq.refl false) ?_ | refine CallAt.mk _ (x28 ..) (by first | (intro h; cases h; done) | (intro _; repeat' (first | exact List.forall_mem_nil _ | trivial | refine List.forall_mem_cons.2 ⟨?_, ?_⟩)) | (intro _; simp [RV.flatP, CD.flatP]; done)) ?_ | refine CallAtG.mk _ (fun _ => x28 ..) ?_ | refine CallDS.mk _ (by simp [RV.data]) (fun _ => x28 ..) (by first | (intro h; cases h; done) | (intro _; repeat' (first | exact List.forall_mem_nil _ | trivial | refine List.forall_mem_cons.2 ⟨?_, ?_⟩)) | (intro _; simp [RV.flatP, CD.flatP]; done)) ?_); try simp (disch := omega) only [go_sem, seval, reduceCtorEq, ↓reduceIte, beq_dec, Int.toNat_natCast, IntKind.signed, IntKind.bits]) | refine And.intro (fun hc => (?_ : AW _ _ _ _)) (fun hc => (?_ : AW _ _ _ _)) | simp (disch := omega) only [go_sem, seval, reduceCtorEq, ↓reduceIte, beq_dec, Int.toNat_natCast, IntKind.signed, IntKind.bits] | (refine And.intro ?_ ?_; focus (first | (intros; omega) | (intros; simp_all; done))) | refine And.intro (?_ : CallAt _ _ _ _ _ _ _ _) ?_ | refine And.intro (?_ : CallAt _ _ _ _ _ _ _ _ ∧ _) ?_ | refine And.intro (?_ : AW _ _ _ _) ?_ | fail))
theorem x24 (y : Yr) : FnR Try.prog 24 [yv y] [.c (.B (!vY y))] := by
  have g := x21 y
  refine fn_walk code24 (by simp) ?_
  (repeat' (first | refine NextAt.mk (fun hc => ?_) (fun pre n v post hc hkey => ?_) | refine Sni.mk (fun hc => ?_) ?_ | refine Both.mk ?_ ?_ | refine AW_seq ?_ | refine AW_block ?_ | ((first | refine AW_reg ?_ | refine AW_cond ?_ | refine AW_skip ?_ | refine AW_exit ?_ | refine AW_ret ?_ | refine AW_regD (by kernel_rfl) ?_ | refine AW_regX (by kernel_rfl) ?_ | refine CallAtG.t (Eq.refl true) ?_ | refine CallAtG.f (Eq.refl false) ?_ | refine CallAt.mk _ (g ..) (by first | (intro h; cases h; done) | (intro _; repeat' (first | exact List.forall_mem_nil _ | trivial | refine List.forall_mem_cons.2 ⟨?_, ?_⟩)) | (intro _; simp [RV.flatP, CD.flatP]; done)) ?_ | refine CallAtG.mk _ (fun _ => g ..) ?_ | refine CallDS.mk _ (by simp [RV.data]) (fun _ => g ..) (by first | (intro h; cases h; done) | (intro _; repeat' (first | exact List.forall_mem_nil _ | trivial | refine List.forall_mem_cons.2 ⟨?_, ?_⟩)) | (intro _; simp [RV.flatP, CD.flatP]; done)) ?_); try simp (disch := omega) only [go_sem, seval, reduceCtorEq, ↓reduceIte, beq_dec, Int.toNat_natCast, IntKind.signed, IntKind.bits]) | refine And.intro (fun hc => (?_ : AW _ _ _ _)) (fun hc => (?_ : AW _ _ _ _)) | simp (disch := omega) only [go_sem, seval, reduceCtorEq, ↓reduceIte, beq_dec, Int.toNat_natCast, IntKind.signed, IntKind.bits] | (refine And.intro ?_ ?_; focus (first | (intros; omega) | (intros; simp_all; done))) | refine And.intro (?_ : CallAt _ _ _ _ _ _ _ _) ?_ | refine And.intro (?_ : CallAt _ _ _ _ _ _ _ _ ∧ _) ?_ | refine And.intro (?_ : AW _ _ _ _) ?_ | fail))
theorem x29 (x : Int) : FnR Try.prog 29 [.I x] [.c (.B false)] := by
  refine fn_walk code29 (by simp) ?_
  (repeat' (first | refine NextAt.mk (fun hc => ?_) (fun pre n v post hc hkey => ?_) | refine Sni.mk (fun hc => ?_) ?_ | refine Both.mk ?_ ?_ | refine AW_seq ?_ | refine AW_block ?_ | ((first | refine AW_reg ?_ | refine AW_cond ?_ | refine AW_skip ?_ | refine AW_exit ?_ | refine AW_ret ?_ | refine AW_regD (by kernel_rfl) ?_ | refine AW_regX (by kernel_rfl) ?_ | refine CallAtG.t (Eq.refl true) ?_ | refine CallAtG.f (Eq.refl false) ?_); try simp (disch := omega) only [go_sem, seval, reduceCtorEq, ↓reduceIte, beq_dec, Int.toNat_natCast, IntKind.signed, IntKind.bits]) | refine And.intro (fun hc => (?_ : AW _ _ _ _)) (fun hc => (?_ : AW _ _ _ _)) | simp (disch := omega) only [go_sem, seval, reduceCtorEq, ↓reduceIte, beq_dec, Int.toNat_natCast, IntKind.signed, IntKind.bits] | (refine And.intro ?_ ?_; focus (first | (intros; omega) | (intros; simp_all; done))) | refine And.intro (?_ : CallAt _ _ _ _ _ _ _ _) ?_ | refine And.intro (?_ : CallAt _ _ _ _ _ _ _ _ ∧ _) ?_ | refine And.intro (?_ : AW _ _ _ _) ?_ | fail))
def cmpI (a b : Int) : Int := if a < b then -1 else if b < a then 1 else 0
theorem x22 (a b : Int) : FnR Try.prog 22 [.I a, .I b] [.c (.I (cmpI a b))] := by
  have ga := x29 a
  have gb := x29 b
  refine fn_walk code22 (by simp) ?_
  (repeat' (first | refine NextAt.mk (fun hc => ?_) (fun pre n v post hc hkey => ?_) | refine Sni.mk (fun hc => ?_) ?_ | refine Both.mk ?_ ?_ | refine AW_seq ?_ | refine AW_block ?_ | ((first | refine AW_reg ?_ | refine AW_cond ?_ | refine AW_skip ?_ | refine AW_exit ?_ | refine AW_ret ?_ | refine AW_regD (by kernel_rfl) ?_ | refine AW_regX (by kernel_rfl) ?_ | refine CallAtG.t (Eq.refl true) ?_ | refine CallAtG.f (Eq.refl false) ?_ | refine CallAt.mk _ (ga ..) (by first | (intro h; cases h; done) | (intro _; repeat' (first | exact List.forall_mem_nil _ | trivial | refine List.forall_mem_cons.2 ⟨?_, ?_⟩)) | (intro _; simp [RV.flatP, CD.flatP]; done)) ?_ | refine CallAtG.mk _ (fun _ => ga ..) ?_ | refine CallDS.mk _ (by simp [RV.data]) (fun _ => ga ..) (by first | (intro h; cases h; done) | (intro _; repeat' (first | exact List.forall_mem_nil _ | trivial | refine List.forall_mem_cons.2 ⟨?_, ?_⟩)) | (intro _; simp [RV.flatP, CD.flatP]; done)) ?_ | refine CallAt.mk _ (gb ..) (by first | (intro h; cases h; done) | (intro _; repeat' (first | exact List.forall_mem_nil _ | trivial | refine List.forall_mem_cons.2 ⟨?_, ?_⟩)) | (intro _; simp [RV.flatP, CD.flatP]; done)) ?_ | refine CallAtG.mk _ (fun _ => gb ..) ?_ | refine CallDS.mk _ (by simp [RV.data]) (fun _ => gb ..) (by first | (intro h; cases h; done) | (intro _; repeat' (first | exact List.forall_mem_nil _ | trivial | refine List.forall_mem_cons.2 ⟨?_, ?_⟩)) | (intro _; simp [RV.flatP, CD.flatP]; done)) ?_); try simp (disch := omega) only [go_sem, seval, reduceCtorEq, ↓reduceIte, beq_dec, Int.toNat_natCast, IntKind.signed, IntKind.bits]) | refine And.intro (fun hc => (?_ : AW _ _ _ _)) (fun hc => (?_ : AW _ _ _ _)) | simp (disch := omega) only [go_sem, seval, reduceCtorEq, ↓reduceIte, beq_dec, Int.toNat_natCast, IntKind.signed, IntKind.bits] | (refine And.intro ?_ ?_; focus (first | (intros; omega) | (intros; simp_all; done))) | refine And.intro (?_ : CallAt _ _ _ _ _ _ _ _) ?_ | refine And.intro (?_ : CallAt _ _ _ _ _ _ _ _ ∧ _) ?_ | refine And.intro (?_ : AW _ _ _ _) ?_ | fail))
  all_goals (unfold cmpI; repeat' split)
  all_goals first | rfl | (exfalso; omega) | trace_state
theorem x30 (l : List Yr) (hl : l.length ≤ 1000) (hv : ∀ i, i < l.length → vY (nth l i) = true) : FnR Try.prog 30 [.c (Yrs l), .fn 24 []] [.c (.I (-1))] := by
  refine fn_walk code30 (by simp) ?_
  (repeat' (first | refine NextAt.mk (fun hc => ?_) (fun pre n v post hc hkey => ?_) | refine Sni.mk (fun hc => ?_) ?_ | refine Both.mk ?_ ?_ | refine AW_seq ?_ | refine AW_block ?_ | ((first | refine AW_reg ?_ | refine AW_cond ?_ | refine AW_skip ?_ | refine AW_exit ?_ | refine AW_ret ?_ | refine AW_regD (by kernel_rfl) ?_ | refine AW_regX (by kernel_rfl) ?_ | refine CallAtG.t (Eq.refl true) ?_ | refine CallAtG.f (Eq.refl false) ?_); try simp (disch := omega) only [go_sem, seval, reduceCtorEq, ↓reduceIte, beq_dec, Int.toNat_natCast, IntKind.signed, IntKind.bits]) | refine And.intro (fun hc => (?_ : AW _ _ _ _)) (fun hc => (?_ : AW _ _ _ _)) | simp (disch := omega) only [go_sem, seval, reduceCtorEq, ↓reduceIte, beq_dec, Int.toNat_natCast, IntKind.signed, IntKind.bits] | (refine And.intro ?_ ?_; focus (first | (intros; omega) | (intros; simp_all; done))) | refine And.intro (?_ : CallAt _ _ _ _ _ _ _ _) ?_ | refine And.intro (?_ : CallAt _ _ _ _ _ _ _ _ ∧ _) ?_ | refine And.intro (?_ : AW _ _ _ _) ?_ | fail))
  refine AW_loopK [0, 1, 7] [4, 5, 8, 9, 10, 11, 12, 13, 14, 15, 16, 17, 18] (fun i : Nat => i ≤ l.length) (fun i => [(8, .I i)]) (fun _ => []) (fun i => l.length - i) 0 (by omega) ?_ ?_
  · simp (disch := omega) only [go_sem, seval, reduceCtorEq, ↓reduceIte, beq_dec, Int.toNat_natCast, IntKind.signed, IntKind.bits, Int.natCast_zero]
  · intro i hi
    rcases Nat.lt_or_ge i l.length with hil | hil
    · have g := x24 (nth l i)
      rw [hv i hil] at g
      have hge := getD_map yc l i [] hil
      have hkk : ((i : Int) < (l.length : Int)) = True := eq_true (by omega)
      (repeat' (first | refine NextAt.mk (fun hc => ?_) (fun pre n v post hc hkey => ?_) | refine Sni.mk (fun hc => ?_) ?_ | refine Both.mk ?_ ?_ | refine AW_seq ?_ | refine AW_block ?_ | ((first | refine AW_reg ?_ | refine AW_cond ?_ | refine AW_skip ?_ | refine AW_exit ?_ | refine AW_ret ?_ | refine AW_regD (by kernel_rfl) ?_ | refine AW_regX (by kernel_rfl) ?_ | refine CallAtG.t (Eq.refl true) ?_ | refine CallAtG.f (Eq.refl false) ?_ | refine CallAt.mk _ (g ..) (by first | (intro h; cases h; done) | (intro _; repeat' (first | exact List.forall_mem_nil _ | trivial | refine List.forall_mem_cons.2 ⟨?_, ?_⟩)) | (intro _; simp [RV.flatP, CD.flatP, hge, yc, Int.toNat_natCast, List.length_map, hkk]; done)) ?_ | refine CallAtG.mk _ (fun _ => g ..) ?_ | refine CallDS.mk _ (by simp [RV.data]) (fun _ => g ..) (by first | (intro h; cases h; done) | (intro _; repeat' (first | exact List.forall_mem_nil _ | trivial | refine List.forall_mem_cons.2 ⟨?_, ?_⟩)) | (intro _; simp [RV.flatP, CD.flatP, hge, yc, Int.toNat_natCast, List.length_map, hkk]; done)) ?_); try simp (disch := omega) only [go_sem, seval, reduceCtorEq, ↓reduceIte, beq_dec, Int.toNat_natCast, IntKind.signed, IntKind.bits, hge, yc, Int.toNat_natCast, List.length_map, hkk]) | refine And.intro (fun hc => (?_ : AW _ _ _ _)) (fun hc => (?_ : AW _ _ _ _)) | simp (disch := omega) only [go_sem, seval, reduceCtorEq, ↓reduceIte, beq_dec, Int.toNat_natCast, IntKind.signed, IntKind.bits, hge, yc, Int.toNat_natCast, List.length_map, hkk] | (refine And.intro ?_ ?_; focus (first | (intros; omega) | (intros; simp_all; done))) | refine And.intro (?_ : CallAt _ _ _ _ _ _ _ _) ?_ | refine And.intro (?_ : CallAt _ _ _ _ _ _ _ _ ∧ _) ?_ | refine And.intro (?_ : AW _ _ _ _) ?_ | fail))
      refine .mk (i + 1) (by omega) (by omega) ?_
      simp (disch := omega) only [go_sem, seval, reduceCtorEq, ↓reduceIte, beq_dec, Int.toNat_natCast, IntKind.signed, IntKind.bits, Int.natCast_add, Int.natCast_one]
    · obtain rfl : i = l.length := by omega
      have hkk : ((l.length : Int) < (l.length : Int)) = False := eq_false (by omega)
      (repeat' (first | refine NextAt.mk (fun hc => ?_) (fun pre n v post hc hkey => ?_) | refine Sni.mk (fun hc => ?_) ?_ | refine Both.mk ?_ ?_ | refine AW_seq ?_ | refine AW_block ?_ | ((first | refine AW_reg ?_ | refine AW_cond ?_ | refine AW_skip ?_ | refine AW_exit ?_ | refine AW_ret ?_ | refine AW_regD (by kernel_rfl) ?_ | refine AW_regX (by kernel_rfl) ?_ | refine CallAtG.t (Eq.refl true) ?_ | refine CallAtG.f (Eq.refl false) ?_); try simp (disch := omega) only [go_sem, seval, reduceCtorEq, ↓reduceIte, beq_dec, Int.toNat_natCast, IntKind.signed, IntKind.bits, List.length_map, hkk]) | refine And.intro (fun hc => (?_ : AW _ _ _ _)) (fun hc => (?_ : AW _ _ _ _)) | simp (disch := omega) only [go_sem, seval, reduceCtorEq, ↓reduceIte, beq_dec, Int.toNat_natCast, IntKind.signed, IntKind.bits, List.length_map, hkk] | (refine And.intro ?_ ?_; focus (first | (intros; omega) | (intros; simp_all; done))) | refine And.intro (?_ : CallAt _ _ _ _ _ _ _ _) ?_ | refine And.intro (?_ : CallAt _ _ _ _ _ _ _ _ ∧ _) ?_ | refine And.intro (?_ : AW _ _ _ _) ?_ | fail))
theorem x30n (l : List Yr) (hl : l.length ≤ 1000) (k : Nat) (hk : k < l.length) (hb : vY (nth l k) = false) (hv : ∀ i, i < k → vY (nth l i) = true) : FnR Try.prog 30 [.c (Yrs l), .fn 24 []] [.c (.I k)] := by
  refine fn_walk code30 (by simp) ?_
  (repeat' (first | refine NextAt.mk (fun hc => ?_) (fun pre n v post hc hkey => ?_) | refine Sni.mk (fun hc => ?_) ?_ | refine Both.mk ?_ ?_ | refine AW_seq ?_ | refine AW_block ?_ | ((first | refine AW_reg ?_ | refine AW_cond ?_ | refine AW_skip ?_ | refine AW_exit ?_ | refine AW_ret ?_ | refine AW_regD (by kernel_rfl) ?_ | refine AW_regX (by kernel_rfl) ?_ | refine CallAtG.t (Eq.refl true) ?_ | refine CallAtG.f (Eq.refl false) ?_); try simp (disch := omega) only [go_sem, seval, reduceCtorEq, ↓reduceIte, beq_dec, Int.toNat_natCast, IntKind.signed, IntKind.bits]) | refine And.intro (fun hc => (?_ : AW _ _ _ _)) (fun hc => (?_ : AW _ _ _ _)) | simp (disch := omega) only [go_sem, seval, reduceCtorEq, ↓reduceIte, beq_dec, Int.toNat_natCast, IntKind.signed, IntKind.bits] | (refine And.intro ?_ ?_; focus (first | (intros; omega) | (intros; simp_all; done))) | refine And.intro (?_ : CallAt _ _ _ _ _ _ _ _) ?_ | refine And.intro (?_ : CallAt _ _ _ _ _ _ _ _ ∧ _) ?_ | refine And.intro (?_ : AW _ _ _ _) ?_ | fail))
  refine AW_loopK [0, 1, 7] [4, 5, 8, 9, 10, 11, 12, 13, 14, 15, 16, 17, 18] (fun i : Nat => i ≤ k) (fun i => [(8, .I i)]) (fun _ => []) (fun i => l.length - i) 0 (by omega) ?_ ?_
  · simp (disch := omega) only [go_sem, seval, reduceCtorEq, ↓reduceIte, beq_dec, Int.toNat_natCast, IntKind.signed, IntKind.bits, Int.natCast_zero]
  · intro i hi
    have hil : i < l.length := by omega
    have g := x24 (nth l i)
    have hge := getD_map yc l i [] hil
    have hkk : ((i : Int) < (l.length : Int)) = True := eq_true (by omega)
    rcases Nat.lt_or_ge i k with hik | hik
    · rw [hv i hik] at g
      (repeat' (first | refine NextAt.mk (fun hc => ?_) (fun pre n v post hc hkey => ?_) | refine Sni.mk (fun hc => ?_) ?_ | refine Both.mk ?_ ?_ | refine AW_seq ?_ | refine AW_block ?_ | ((first | refine AW_reg ?_ | refine AW_cond ?_ | refine AW_skip ?_ | refine AW_exit ?_ | refine AW_ret ?_ | refine AW_regD (by kernel_rfl) ?_ | refine AW_regX (by kernel_rfl) ?_ | refine CallAtG.t (Eq.refl true) ?_ | refine CallAtG.f (Eq.refl false) ?_ | refine CallAt.mk _ (g ..) (by first | (intro h; cases h; done) | (intro _; repeat' (first | exact List.forall_mem_nil _ | trivial | refine List.forall_mem_cons.2 ⟨?_, ?_⟩)) | (intro _; simp [RV.flatP, CD.flatP, hge, yc, Int.toNat_natCast, List.length_map, hkk]; done)) ?_ | refine CallAtG.mk _ (fun _ => g ..) ?_ | refine CallDS.mk _ (by simp [RV.data]) (fun _ => g ..) (by first | (intro h; cases h; done) | (intro _; repeat' (first | exact List.forall_mem_nil _ | trivial | refine List.forall_mem_cons.2 ⟨?_, ?_⟩)) | (intro _; simp [RV.flatP, CD.flatP, hge, yc, Int.toNat_natCast, List.length_map, hkk]; done)) ?_); try simp (disch := omega) only [go_sem, seval, reduceCtorEq, ↓reduceIte, beq_dec, Int.toNat_natCast, IntKind.signed, IntKind.bits, hge, yc, Int.toNat_natCast, List.length_map, hkk]) | refine And.intro (fun hc => (?_ : AW _ _ _ _)) (fun hc => (?_ : AW _ _ _ _)) | simp (disch := omega) only [go_sem, seval, reduceCtorEq, ↓reduceIte, beq_dec, Int.toNat_natCast, IntKind.signed, IntKind.bits, hge, yc, Int.toNat_natCast, List.length_map, hkk] | (refine And.intro ?_ ?_; focus (first | (intros; omega) | (intros; simp_all; done))) | refine And.intro (?_ : CallAt _ _ _ _ _ _ _ _) ?_ | refine And.intro (?_ : CallAt _ _ _ _ _ _ _ _ ∧ _) ?_ | refine And.intro (?_ : AW _ _ _ _) ?_ | fail))
      refine .mk (i + 1) (by omega) (by omega) ?_
      simp (disch := omega) only [go_sem, seval, reduceCtorEq, ↓reduceIte, beq_dec, Int.toNat_natCast, IntKind.signed, IntKind.bits, Int.natCast_add, Int.natCast_one]
    · obtain rfl : i = k := by omega
      rw [hb] at g
      (repeat' (first | refine NextAt.mk (fun hc => ?_) (fun pre n v post hc hkey => ?_) | refine Sni.mk (fun hc => ?_) ?_ | refine Both.mk ?_ ?_ | refine AW_seq ?_ | refine AW_block ?_ | ((first | refine AW_reg ?_ | refine AW_cond ?_ | refine AW_skip ?_ | refine AW_exit ?_ | refine AW_ret ?_ | refine AW_regD (by kernel_rfl) ?_ | refine AW_regX (by kernel_rfl) ?_ | refine CallAtG.t (Eq.refl true) ?_ | refine CallAtG.f (Eq.refl false) ?_ | refine CallAt.mk _ (g ..) (by first | (intro h; cases h; done) | (intro _; repeat' (first | exact List.forall_mem_nil _ | trivial | refine List.forall_mem_cons.2 ⟨?_, ?_⟩)) | (intro _; simp [RV.flatP, CD.flatP, hge, yc, Int.toNat_natCast, List.length_map, hkk]; done)) ?_ | refine CallAtG.mk _ (fun _ => g ..) ?_ | refine CallDS.mk _ (by simp [RV.data]) (fun _ => g ..) (by first | (intro h; cases h; done) | (intro _; repeat' (first | exact List.forall_mem_nil _ | trivial | refine List.forall_mem_cons.2 ⟨?_, ?_⟩)) | (intro _; simp [RV.flatP, CD.flatP, hge, yc, Int.toNat_natCast, List.length_map, hkk]; done)) ?_); try simp (disch := omega) only [go_sem, seval, reduceCtorEq, ↓reduceIte, beq_dec, Int.toNat_natCast, IntKind.signed, IntKind.bits, hge, yc, Int.toNat_natCast, List.length_map, hkk]) | refine And.intro (fun hc => (?_ : AW _ _ _ _)) (fun hc => (?_ : AW _ _ _ _)) | simp (disch := omega) only [go_sem, seval, reduceCtorEq, ↓reduceIte, beq_dec, Int.toNat_natCast, IntKind.signed, IntKind.bits, hge, yc, Int.toNat_natCast, List.length_map, hkk] | (refine And.intro ?_ ?_; focus (first | (intros; omega) | (intros; simp_all; done))) | refine And.intro (?_ : CallAt _ _ _ _ _ _ _ _) ?_ | refine And.intro (?_ : CallAt _ _ _ _ _ _ _ _ ∧ _) ?_ | refine And.intro (?_ : AW _ _ _ _) ?_ | fail))
/-- the error of a list of years (of nine at most) -/
def chY (l : List Yr) : Int := if l.all vY then 0 else 1
theorem chY_ok {l : List Yr} (h : chY l = 0) : ∀ i, i < l.length → vY (nth l i) = true := fun i hi => by
  unfold chY at h
  split at h
  · rename_i h'
    exact List.all_eq_true.1 h' _ (nth_mem l i hi)
  · omega
theorem first_bad (p : Yr → Bool) : ∀ l : List Yr, l.all p = false → ∃ k, k < l.length ∧ p (nth l k) = false ∧ ∀ i, i < k → p (nth l i) = true
  | [], h => by simp at h
  | a :: r, h => by
    cases ha : p a with
    | false => exact ⟨0, by simp, ha, fun i hi => by omega⟩
    | true =>
      simp only [List.all_cons, ha, Bool.true_and] at h
      obtain ⟨k, h1, h2, h3⟩ := first_bad p r h
      refine ⟨k + 1, by simp; omega, h2, fun i hi => ?_⟩
      cases i with
      | zero => exact ha
      | succ i => exact h3 i (by omega)
theorem x23 (l : List Yr) (hl : l.length ≤ 1000) : FnR Try.prog 23 [.c (Yrs l), .fn 24 []] [.c (.B (!l.all vY))] := by
  cases h : l.all vY with
  | true =>
    have g := x30 l hl fun i hi => List.all_eq_true.1 h _ (nth_mem l i hi)
    refine fn_walk code23 (by simp) ?_
    (repeat' (first | refine NextAt.mk (fun hc => ?_) (fun pre n v post hc hkey => ?_) | refine Sni.mk (fun hc => ?_) ?_ | refine Both.mk ?_ ?_ | refine AW_seq ?_ | refine AW_block ?_ | ((first | refine AW_reg ?_ | refine AW_cond ?_ | refine AW_skip ?_ | refine AW_exit ?_ | refine AW_ret ?_ | refine AW_regD (by kernel_rfl) ?_ | refine AW_regX (by kernel_rfl) ?_ | refine CallAtG.t (Eq.refl true) ?_ | refine CallAtG.f (Eq.refl false) ?_ | refine CallAt.mk _ (g ..) (by first | (intro h; cases h; done) | (intro _; repeat' (first | exact List.forall_mem_nil _ | trivial | refine List.forall_mem_cons.2 ⟨?_, ?_⟩)) | (intro _; simp [RV.flatP, CD.flatP]; done)) ?_ | refine CallAtG.mk _ (fun _ => g ..) ?_ | refine CallDS.mk _ (by simp [RV.data]) (fun _ => g ..) (by first | (intro h; cases h; done) | (intro _; repeat' (first | exact List.forall_mem_nil _ | trivial | refine List.forall_mem_cons.2 ⟨?_, ?_⟩)) | (intro _; simp [RV.flatP, CD.flatP]; done)) ?_); try simp (disch := omega) only [go_sem, seval, reduceCtorEq, ↓reduceIte, beq_dec, Int.toNat_natCast, IntKind.signed, IntKind.bits]) | refine And.intro (fun hc => (?_ : AW _ _ _ _)) (fun hc => (?_ : AW _ _ _ _)) | simp (disch := omega) only [go_sem, seval, reduceCtorEq, ↓reduceIte, beq_dec, Int.toNat_natCast, IntKind.signed, IntKind.bits] | (refine And.intro ?_ ?_; focus (first | (intros; omega) | (intros; simp_all; done))) | refine And.intro (?_ : CallAt _ _ _ _ _ _ _ _) ?_ | refine And.intro (?_ : CallAt _ _ _ _ _ _ _ _ ∧ _) ?_ | refine And.intro (?_ : AW _ _ _ _) ?_ | fail))
  | false =>
    obtain ⟨k, h1, h2, h3⟩ := first_bad vY l h
    have g := x30n l hl k h1 h2 h3
    refine fn_walk code23 (by simp) ?_
    (repeat' (first | refine NextAt.mk (fun hc => ?_) (fun pre n v post hc hkey => ?_) | refine Sni.mk (fun hc => ?_) ?_ | refine Both.mk ?_ ?_ | refine AW_seq ?_ | refine AW_block ?_ | ((first | refine AW_reg ?_ | refine AW_cond ?_ | refine AW_skip ?_ | refine AW_exit ?_ | refine AW_ret ?_ | refine AW_regD (by kernel_rfl) ?_ | refine AW_regX (by kernel_rfl) ?_ | refine CallAtG.t (Eq.refl true) ?_ | refine CallAtG.f (Eq.refl false) ?_ | refine CallAt.mk _ (g ..) (by first | (intro h; cases h; done) | (intro _; repeat' (first | exact List.forall_mem_nil _ | trivial | refine List.forall_mem_cons.2 ⟨?_, ?_⟩)) | (intro _; simp [RV.flatP, CD.flatP]; done)) ?_ | refine CallAtG.mk _ (fun _ => g ..) ?_ | refine CallDS.mk _ (by simp [RV.data]) (fun _ => g ..) (by first | (intro h; cases h; done) | (intro _; repeat' (first | exact List.forall_mem_nil _ | trivial | refine List.forall_mem_cons.2 ⟨?_, ?_⟩)) | (intro _; simp [RV.flatP, CD.flatP]; done)) ?_); try simp (disch := omega) only [go_sem, seval, reduceCtorEq, ↓reduceIte, beq_dec, Int.toNat_natCast, IntKind.signed, IntKind.bits]) | refine And.intro (fun hc => (?_ : AW _ _ _ _)) (fun hc => (?_ : AW _ _ _ _)) | simp (disch := omega) only [go_sem, seval, reduceCtorEq, ↓reduceIte, beq_dec, Int.toNat_natCast, IntKind.signed, IntKind.bits] | (refine And.intro ?_ ?_; focus (first | (intros; omega) | (intros; simp_all; done))) | refine And.intro (?_ : CallAt _ _ _ _ _ _ _ _) ?_ | refine And.intro (?_ : CallAt _ _ _ _ _ _ _ _ ∧ _) ?_ | refine And.intro (?_ : AW _ _ _ _) ?_ | fail))
    all_goals first | rfl | omega | (simp; done) | trace_state
theorem x12 (l : List Yr) (hl : l.length ≤ 9) : FnR Try.prog 12 [.c (Yrs l)] [.c (.I (chY l))] := by
  have g := x23 l (by omega)
  unfold chY
  refine fn_walk code12 (by simp) ?_
  have h12 : decide ((12 : Int) < (l.length : Int)) = false := decide_eq_false (by omega)
  cases h : l.all vY <;> rw [h] at g <;> (repeat' (first | refine NextAt.mk (fun hc => ?_) (fun pre n v post hc hkey => ?_) | refine Sni.mk (fun hc => ?_) ?_ | refine Both.mk ?_ ?_ | refine AW_seq ?_ | refine AW_block ?_ | ((first | refine AW_reg ?_ | refine AW_cond ?_ | refine AW_skip ?_ | refine AW_exit ?_ | refine AW_ret ?_ | refine AW_regD (by kernel_rfl) ?_ | refine AW_regX (by kernel_rfl) ?_ | refine CallAtG.t (Eq.refl true) ?_ | refine CallAtG.f (Eq.refl false) ?_ | refine CallAt.mk _ (g ..) (by first | (intro h; cases h; done) | (intro _; repeat' (first | exact List.forall_mem_nil _ | trivial | refine List.forall_mem_cons.2 ⟨?_, ?_⟩)) | (intro _; simp [RV.flatP, CD.flatP, List.length_map, h12]; done)) ?_ | refine CallAtG.mk _ (fun _ => g ..) ?_ | refine CallDS.mk _ (by simp [RV.data]) (fun _ => g ..) (by first | (intro h; cases h; done) | (intro _; repeat' (first | exact List.forall_mem_nil _ | trivial | refine List.forall_mem_cons.2 ⟨?_, ?_⟩)) | (intro _; simp [RV.flatP, CD.flatP, List.length_map, h12]; done)) ?_); try simp (disch := omega) only [go_sem, seval, reduceCtorEq, ↓reduceIte, beq_dec, Int.toNat_natCast, IntKind.signed, IntKind.bits, List.length_map, h12]) | refine And.intro (fun hc => (?_ : AW _ _ _ _)) (fun hc => (?_ : AW _ _ _ _)) | simp (disch := omega) only [go_sem, seval, reduceCtorEq, ↓reduceIte, beq_dec, Int.toNat_natCast, IntKind.signed, IntKind.bits, List.length_map, h12] | (refine And.intro ?_ ?_; focus (first | (intros; omega) | (intros; simp_all; done))) | refine And.intro (?_ : CallAt _ _ _ _ _ _ _ _) ?_ | refine And.intro (?_ : CallAt _ _ _ _ _ _ _ _ ∧ _) ?_ | refine And.intro (?_ : AW _ _ _ _) ?_ | fail))
end Go.Proofs.Ytggcpnnmmcnogaa

-- P p_b.txt
open Go Go.AL Go.RowKit
namespace Go.Proofs.Ytggcpnnmmcnogaa
set_option maxRecDepth 20000
def mtY (a b : Yr) : Yr := (max a.1 b.1, min a.2 b.2)
theorem x10y (a b : Yr) (ha : vY a = true) (hb : vY b = true) (hm : vY (mtY a b) = true) : FnR Try.prog 10 [yv a, yv b] [.agg [.I (mtY a b).1, .I (mtY a b).2], .c (.B true)] := by
  have ga := x21 a
  have gb := x21 b
  have gm := x21 (mtY a b)
  rw [ha] at ga
  rw [hb] at gb
  rw [hm] at gm
  unfold mtY at *
  refine fn_walk code10 (by simp) ?_
  (repeat' (first | refine NextAt.mk (fun hc => ?_) (fun pre n v post hc hkey => ?_) | refine Sni.mk (fun hc => ?_) ?_ | refine Both.mk ?_ ?_ | refine AW_seq ?_ | refine AW_block ?_ | ((first | refine AW_reg ?_ | refine AW_cond ?_ | refine AW_skip ?_ | refine AW_exit ?_ | refine AW_ret ?_ | refine AW_regD (by kernel_rfl) ?_ | refine AW_regX (by kernel_rfl) ?_ | refine CallAtG.t (Eq.refl true) ?_ | refine CallAtG.f (Eq.refl false) ?_ | refine CallAt.mk _ (ga ..) (by first | (intro h; cases h; done) | (intro _; repeat' (first | exact List.forall_mem_nil _ | trivial | refine List.forall_mem_cons.2 ⟨?_, ?_⟩)) | (intro _; simp [RV.flatP, CD.flatP]; done)) ?_ | refine CallAtG.mk _ (fun _ => ga ..) ?_ | refine CallDS.mk _ (by simp [RV.data]) (fun _ => ga ..) (by first | (intro h; cases h; done) | (intro _; repeat' (first | exact List.forall_mem_nil _ | trivial | refine List.forall_mem_cons.2 ⟨?_, ?_⟩)) | (intro _; simp [RV.flatP, CD.flatP]; done)) ?_ | refine CallAt.mk _ (gb ..) (by first | (intro h; cases h; done) | (intro _; repeat' (first | exact List.forall_mem_nil _ | trivial | refine List.forall_mem_cons.2 ⟨?_, ?_⟩)) | (intro _; simp [RV.flatP, CD.flatP]; done)) ?_ | refine CallAtG.mk _ (fun _ => gb ..) ?_ | refine CallDS.mk _ (by simp [RV.data]) (fun _ => gb ..) (by first | (intro h; cases h; done) | (intro _; repeat' (first | exact List.forall_mem_nil _ | trivial | refine List.forall_mem_cons.2 ⟨?_, ?_⟩)) | (intro _; simp [RV.flatP, CD.flatP]; done)) ?_ | refine CallAt.mk _ (gm ..) (by first | (intro h; cases h; done) | (intro _; repeat' (first | exact List.forall_mem_nil _ | trivial | refine List.forall_mem_cons.2 ⟨?_, ?_⟩)) | (intro _; simp [RV.flatP, CD.flatP]; done)) ?_ | refine CallAtG.mk _ (fun _ => gm ..) ?_ | refine CallDS.mk _ (by simp [RV.data]) (fun _ => gm ..) (by first | (intro h; cases h; done) | (intro _; repeat' (first | exact List.forall_mem_nil _ | trivial | refine List.forall_mem_cons.2 ⟨?_, ?_⟩)) | (intro _; simp [RV.flatP, CD.flatP]; done)) ?_); try simp (disch := omega) only [go_sem, seval, reduceCtorEq, ↓reduceIte, beq_dec, Int.toNat_natCast, IntKind.signed, IntKind.bits]) | refine And.intro (fun hc => (?_ : AW _ _ _ _)) (fun hc => (?_ : AW _ _ _ _)) | simp (disch := omega) only [go_sem, seval, reduceCtorEq, ↓reduceIte, beq_dec, Int.toNat_natCast, IntKind.signed, IntKind.bits] | (refine And.intro ?_ ?_; focus (first | (intros; omega) | (intros; simp_all; done))) | refine And.intro (?_ : CallAt _ _ _ _ _ _ _ _) ?_ | refine And.intro (?_ : CallAt _ _ _ _ _ _ _ _ ∧ _) ?_ | refine And.intro (?_ : AW _ _ _ _) ?_ | fail))
theorem x10n (a b : Yr) (ha : vY a = true) (hb : vY b = true) (hm : vY (mtY a b) = false) : FnR Try.prog 10 [yv a, yv b] [.agg [.I 0, .I 0], .c (.B false)] := by
  have ga := x21 a
  have gb := x21 b
  have gm := x21 (mtY a b)
  rw [ha] at ga
  rw [hb] at gb
  rw [hm] at gm
  unfold mtY at *
  refine fn_walk code10 (by simp) ?_
  (repeat' (first | refine NextAt.mk (fun hc => ?_) (fun pre n v post hc hkey => ?_) | refine Sni.mk (fun hc => ?_) ?_ | refine Both.mk ?_ ?_ | refine AW_seq ?_ | refine AW_block ?_ | ((first | refine AW_reg ?_ | refine AW_cond ?_ | refine AW_skip ?_ | refine AW_exit ?_ | refine AW_ret ?_ | refine AW_regD (by kernel_rfl) ?_ | refine AW_regX (by kernel_rfl) ?_ | refine CallAtG.t (Eq.refl true) ?_ | refine CallAtG.f (Eq.refl false) ?_ | refine CallAt.mk _ (ga ..) (by first | (intro h; cases h; done) | (intro _; repeat' (first | exact List.forall_mem_nil _ | trivial | refine List.forall_mem_cons.2 ⟨?_, ?_⟩)) | (intro _; simp [RV.flatP, CD.flatP]; done)) ?_ | refine CallAtG.mk _ (fun _ => ga ..) ?_ | refine CallDS.mk _ (by simp [RV.data]) (fun _ => ga ..) (by first | (intro h; cases h; done) | (intro _; repeat' (first | exact List.forall_mem_nil _ | trivial | refine List.forall_mem_cons.2 ⟨?_, ?_⟩)) | (intro _; simp [RV.flatP, CD.flatP]; done)) ?_ | refine CallAt.mk _ (gb ..) (by first | (intro h; cases h; done) | (intro _; repeat' (first | exact List.forall_mem_nil _ | trivial | refine List.forall_mem_cons.2 ⟨?_, ?_⟩)) | (intro _; simp [RV.flatP, CD.flatP]; done)) ?_ | refine CallAtG.mk _ (fun _ => gb ..) ?_ | refine CallDS.mk _ (by simp [RV.data]) (fun _ => gb ..) (by first | (intro h; cases h; done) | (intro _; repeat' (first | exact List.forall_mem_nil _ | trivial | refine List.forall_mem_cons.2 ⟨?_, ?_⟩)) | (intro _; simp [RV.flatP, CD.flatP]; done)) ?_ | refine CallAt.mk _ (gm ..) (by first | (intro h; cases h; done) | (intro _; repeat' (first | exact List.forall_mem_nil _ | trivial | refine List.forall_mem_cons.2 ⟨?_, ?_⟩)) | (intro _; simp [RV.flatP, CD.flatP]; done)) ?_ | refine CallAtG.mk _ (fun _ => gm ..) ?_ | refine CallDS.mk _ (by simp [RV.data]) (fun _ => gm ..) (by first | (intro h; cases h; done) | (intro _; repeat' (first | exact List.forall_mem_nil _ | trivial | refine List.forall_mem_cons.2 ⟨?_, ?_⟩)) | (intro _; simp [RV.flatP, CD.flatP]; done)) ?_); try simp (disch := omega) only [go_sem, seval, reduceCtorEq, ↓reduceIte, beq_dec, Int.toNat_natCast, IntKind.signed, IntKind.bits]) | refine And.intro (fun hc => (?_ : AW _ _ _ _)) (fun hc => (?_ : AW _ _ _ _)) | simp (disch := omega) only [go_sem, seval, reduceCtorEq, ↓reduceIte, beq_dec, Int.toNat_natCast, IntKind.signed, IntKind.bits] | (refine And.intro ?_ ?_; focus (first | (intros; omega) | (intros; simp_all; done))) | refine And.intro (?_ : CallAt _ _ _ _ _ _ _ _) ?_ | refine And.intro (?_ : CallAt _ _ _ _ _ _ _ _ ∧ _) ?_ | refine And.intro (?_ : AW _ _ _ _) ?_ | fail))
def relY (a b : Yr) : Int :=
  if a.2 + 1 < b.1 then 1 else if a.2 + 1 = b.1 then 2 else if b.2 + 1 < a.1 then 13 else if b.2 + 1 = a.1 then 12 else
  if cmpI a.1 b.1 = 0 ∧ cmpI a.2 b.2 = 0 then 7 else if cmpI a.1 b.1 = 0 ∧ cmpI a.2 b.2 < 0 then 4 else if cmpI a.1 b.1 = 0 then 10 else
  if cmpI a.2 b.2 = 0 ∧ 0 < cmpI a.1 b.1 then 6 else if cmpI a.2 b.2 = 0 then 8 else if 0 < cmpI a.1 b.1 ∧ cmpI a.2 b.2 < 0 then 5 else
  if cmpI a.1 b.1 < 0 ∧ 0 < cmpI a.2 b.2 then 9 else if cmpI a.1 b.1 < 0 then 3 else 11
theorem relY_iff {a b : Yr} (ha : a.1 ≤ a.2) (hb : b.1 ≤ b.2) : (3 ≤ relY a b ∧ relY a b ≤ 11) ↔ (a.1 ≤ b.2 ∧ b.1 ≤ a.2) := by
  unfold relY
  by_cases h1 : a.2 + 1 < b.1
  · rw [if_pos h1]; omega
  rw [if_neg h1]
  by_cases h2 : a.2 + 1 = b.1
  · rw [if_pos h2]; omega
  rw [if_neg h2]
  by_cases h3 : b.2 + 1 < a.1
  · rw [if_pos h3]; omega
  rw [if_neg h3]
  by_cases h4 : b.2 + 1 = a.1
  · rw [if_pos h4]; omega
  rw [if_neg h4]
  constructor
  · intro _; omega
  · intro _
    generalize cmpI a.1 b.1 = f, cmpI a.2 b.2 = t
    repeat' split
    all_goals omega
set_option maxHeartbeats 4000000 in
theorem x9 (a b : Yr) (ha : vY a = true) (hb : vY b = true) : FnR Try.prog 9 [yv a, yv b] [.c (.I (relY a b))] := by
  have ga := x21 a
  have gb := x21 b
  have g1 := x22 a.1 b.1
  have g2 := x22 a.2 b.2
  rw [ha] at ga
  rw [hb] at gb
  have w1 := vY_iff.1 ha
  have w2 := vY_iff.1 hb
  unfold okY at w1 w2
  obtain ⟨r, hr⟩ : ∃ r, r = relY a b := ⟨_, rfl⟩
  rw [← hr]
  unfold relY at hr
  generalize cmpI a.1 b.1 = f, cmpI a.2 b.2 = t at *
  refine fn_walk code9 (by simp) ?_
  (repeat' (first | refine NextAt.mk (fun hc => ?_) (fun pre n v post hc hkey => ?_) | refine Sni.mk (fun hc => ?_) ?_ | refine Both.mk ?_ ?_ | refine AW_seq ?_ | refine AW_block ?_ | ((first | refine AW_reg ?_ | refine AW_cond ?_ | refine AW_skip ?_ | refine AW_exit ?_ | refine AW_ret ?_ | refine AW_regD (by kernel_rfl) ?_ | refine AW_regX (by kernel_rfl) ?_ | refine CallAtG.t (Eq.refl true) ?_ | refine CallAtG.f (Eq.refl false) ?_ | refine CallAt.mk _ (ga ..) (by first | (intro h; cases h; done) | (intro _; repeat' (first | exact List.forall_mem_nil _ | trivial | refine List.forall_mem_cons.2 ⟨?_, ?_⟩)) | (intro _; simp [RV.flatP, CD.flatP]; done)) ?_ | refine CallAtG.mk _ (fun _ => ga ..) ?_ | refine CallDS.mk _ (by simp [RV.data]) (fun _ => ga ..) (by first | (intro h; cases h; done) | (intro _; repeat' (first | exact List.forall_mem_nil _ | trivial | refine List.forall_mem_cons.2 ⟨?_, ?_⟩)) | (intro _; simp [RV.flatP, CD.flatP]; done)) ?_ | refine CallAt.mk _ (gb ..) (by first | (intro h; cases h; done) | (intro _; repeat' (first | exact List.forall_mem_nil _ | trivial | refine List.forall_mem_cons.2 ⟨?_, ?_⟩)) | (intro _; simp [RV.flatP, CD.flatP]; done)) ?_ | refine CallAtG.mk _ (fun _ => gb ..) ?_ | refine CallDS.mk _ (by simp [RV.data]) (fun _ => gb ..) (by first | (intro h; cases h; done) | (intro _; repeat' (first | exact List.forall_mem_nil _ | trivial | refine List.forall_mem_cons.2 ⟨?_, ?_⟩)) | (intro _; simp [RV.flatP, CD.flatP]; done)) ?_ | refine CallAt.mk _ (g1 ..) (by first | (intro h; cases h; done) | (intro _; repeat' (first | exact List.forall_mem_nil _ | trivial | refine List.forall_mem_cons.2 ⟨?_, ?_⟩)) | (intro _; simp [RV.flatP, CD.flatP]; done)) ?_ | refine CallAtG.mk _ (fun _ => g1 ..) ?_ | refine CallDS.mk _ (by simp [RV.data]) (fun _ => g1 ..) (by first | (intro h; cases h; done) | (intro _; repeat' (first | exact List.forall_mem_nil _ | trivial | refine List.forall_mem_cons.2 ⟨?_, ?_⟩)) | (intro _; simp [RV.flatP, CD.flatP]; done)) ?_ | refine CallAt.mk _ (g2 ..) (by first | (intro h; cases h; done) | (intro _; repeat' (first | exact List.forall_mem_nil _ | trivial | refine List.forall_mem_cons.2 ⟨?_, ?_⟩)) | (intro _; simp [RV.flatP, CD.flatP]; done)) ?_ | refine CallAtG.mk _ (fun _ => g2 ..) ?_ | refine CallDS.mk _ (by simp [RV.data]) (fun _ => g2 ..) (by first | (intro h; cases h; done) | (intro _; repeat' (first | exact List.forall_mem_nil _ | trivial | refine List.forall_mem_cons.2 ⟨?_, ?_⟩)) | (intro _; simp [RV.flatP, CD.flatP]; done)) ?_); try simp (disch := omega) only [go_sem, seval, reduceCtorEq, ↓reduceIte, beq_dec, Int.toNat_natCast, IntKind.signed, IntKind.bits]) | refine And.intro (fun hc => (?_ : AW _ _ _ _)) (fun hc => (?_ : AW _ _ _ _)) | simp (disch := omega) only [go_sem, seval, reduceCtorEq, ↓reduceIte, beq_dec, Int.toNat_natCast, IntKind.signed, IntKind.bits] | (refine And.intro ?_ ?_; focus (first | (intros; omega) | (intros; simp_all; done))) | refine And.intro (?_ : CallAt _ _ _ _ _ _ _ _) ?_ | refine And.intro (?_ : CallAt _ _ _ _ _ _ _ _ ∧ _) ?_ | refine And.intro (?_ : AW _ _ _ _) ?_ | fail))
  all_goals rw [hr]
  all_goals (repeat' split)
  all_goals first | rfl | (exfalso; omega) | trace_state
end Go.Proofs.Ytggcpnnmmcnogaa

