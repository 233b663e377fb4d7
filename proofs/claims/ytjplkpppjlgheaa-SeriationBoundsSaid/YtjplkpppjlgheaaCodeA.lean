/-
  Lemmas for the proof: no statement of its own.
-/
import Derived.Test.YtjplkpppjlgheaaProg
import Derived.Test.YtjplkpppjlgheaaAlD
import Derived.KernelRfl
set_option linter.unusedVariables false
set_option linter.unusedSimpArgs false
open Go Go.AL
namespace Go.Proofs.Ytjplkpppjlgheaa
/- coinage/consecutive.Possible -/
abbrev c30_1 : AC := .reg [⟨(some 4), .mv (.k (.B false)), none⟩] false
abbrev c30_2 : AC := .reg [⟨(some 8), .mv (.t 0), none⟩,
  ⟨(some 9), .mv (.t 1), none⟩,
  ⟨(some 10), .call 41 [(.t 8), (.t 9)], none⟩,
  ⟨(some 7), .mv (.t 10), none⟩,
  ⟨(some 11), .ext (.t 7) 0, none⟩,
  ⟨(some 12), .ext (.t 7) 1, none⟩,
  ⟨(some 5), .mv (.t 11), none⟩,
  ⟨(some 6), .mv (.t 12), none⟩] false
abbrev c30_3 : AC := .reg [⟨(some 13), .mv (.t 6), none⟩,
  ⟨(some 14), .bin .eql (.t 13) (.k (.I 0)), none⟩,
  ⟨(some 4), .mv (.t 14), none⟩] false
abbrev c30_4 : AC := .seq c30_3 .ret
abbrev c30_5 : AC := .seq c30_2 c30_4
abbrev c30_6 : AC := .seq c30_1 c30_5
abbrev c30 : AC := c30_6
theorem code30 : fnCode Try.prog 30 = some (c30, [4], 15) := by kernel_rfl
/- coinage/consecutive.Valid -/
abbrev c31_1 : AC := .reg [⟨(some 4), .mv (.k (.B false)), none⟩] false
abbrev c31_2 : AC := .reg [⟨(some 9), .mv (.t 0), none⟩,
  ⟨(some 10), .bin .lss (.t 9) (.k (.I 0)), none⟩,
  ⟨(some 11), .mv (.t 10), none⟩,
  ⟨(some 12), .mv (.t 0), (some (11, false))⟩,
  ⟨(some 13), .bin .gtr (.t 12) (.k (.I 7)), (some (11, false))⟩,
  ⟨(some 14), .pick (.t 11) (.k (.B true)) (.t 13), none⟩,
  ⟨(some 15), .mv (.t 14), none⟩,
  ⟨(some 16), .mv (.t 1), (some (15, false))⟩,
  ⟨(some 17), .len (.t 16), (some (15, false))⟩,
  ⟨(some 18), .bin .gtr (.t 17) (.k (.I 16)), (some (15, false))⟩,
  ⟨(some 19), .pick (.t 15) (.k (.B true)) (.t 18), none⟩] false
abbrev c31_3 : AC := .reg [⟨(some 4), .mv (.k (.B false)), none⟩] false
abbrev c31_4 : AC := .seq c31_3 .ret
abbrev c31_5 : AC := .cond (.t 19) c31_4 .skip
abbrev c31_6 : AC := .seq c31_2 c31_5
abbrev c31_7 : AC := .reg [⟨(some 20), .mv (.t 1), none⟩,
  ⟨(some 21), .len (.t 20), none⟩,
  ⟨(some 22), .mv (.k (.I 0)), none⟩] false
abbrev c31_8 : AC := .reg [⟨(some 23), .bin .lss (.t 22) (.t 21), none⟩] false
abbrev c31_9 : AC := .cond (.t 23) .skip (.exit 0)
abbrev c31_10 : AC := .reg [⟨(some 24), .iad 1 (.t 20) (.t 22), none⟩,
  ⟨(some 25), .ld none (.t 24), none⟩,
  ⟨(some 6), .mv (.t 25), none⟩] false
abbrev c31_11 : AC := .reg [⟨(some 26), .mv (.t 6), none⟩,
  ⟨(some 27), .len (.t 26), none⟩,
  ⟨(some 28), .mv (.k (.I 0)), none⟩] false
abbrev c31_12 : AC := .reg [⟨(some 29), .bin .lss (.t 28) (.t 27), none⟩] false
abbrev c31_13 : AC := .cond (.t 29) .skip (.exit 2)
abbrev c31_14 : AC := .reg [⟨(some 30), .mv (.t 28), none⟩,
  ⟨(some 31), .iad 1 (.t 26) (.t 28), none⟩,
  ⟨(some 32), .ld none (.t 31), none⟩,
  ⟨(some 7), .mv (.t 30), none⟩,
  ⟨(some 8), .mv (.t 32), none⟩] false
abbrev c31_15 : AC := .reg [⟨(some 33), .mv (.t 8), none⟩,
  ⟨(some 34), .bin .lss (.t 33) (.k (.I 0)), none⟩,
  ⟨(some 35), .mv (.t 34), none⟩,
  ⟨(some 36), .mv (.t 8), (some (35, false))⟩,
  ⟨(some 37), .mv (.t 0), (some (35, false))⟩,
  ⟨(some 38), .bin .geq (.t 36) (.t 37), (some (35, false))⟩,
  ⟨(some 39), .pick (.t 35) (.k (.B true)) (.t 38), none⟩,
  ⟨(some 40), .mv (.t 39), none⟩,
  ⟨(some 41), .mv (.t 7), (some (40, false))⟩,
  ⟨(some 42), .bin .gtr (.t 41) (.k (.I 0)), (some (40, false))⟩,
  ⟨(some 43), .mv (.t 42), (some (40, false))⟩,
  ⟨(some 44), .mv (.t 8), (some (43, true))⟩,
  ⟨(some 45), .mv (.t 6), (some (43, true))⟩,
  ⟨(some 46), .mv (.t 7), (some (43, true))⟩,
  ⟨(some 47), .bin .sub (.t 46) (.k (.I 1)), (some (43, true))⟩,
  ⟨(some 48), .iad 1 (.t 45) (.t 47), (some (43, true))⟩,
  ⟨(some 49), .ld none (.t 48), (some (43, true))⟩,
  ⟨(some 50), .bin .leq (.t 44) (.t 49), (some (43, true))⟩,
  ⟨(some 51), .pick (.t 43) (.t 50) (.k (.B false)), (some (40, false))⟩,
  ⟨(some 52), .pick (.t 40) (.k (.B true)) (.t 51), none⟩] false
abbrev c31_16 : AC := .reg [⟨(some 4), .mv (.k (.B false)), none⟩] false
abbrev c31_17 : AC := .seq c31_16 .ret
abbrev c31_18 : AC := .cond (.t 52) c31_17 .skip
abbrev c31_19 : AC := .seq c31_15 c31_18
abbrev c31_20 : AC := .seq c31_14 c31_19
abbrev c31_21 : AC := .block 3 c31_20
abbrev c31_22 : AC := .reg [⟨(some 53), .bin .add (.t 28) (.k (.I 1)), none⟩,
  ⟨(some 28), .mv (.t 53), none⟩] false
abbrev c31_23 : AC := .seq c31_21 c31_22
abbrev c31_24 : AC := .seq c31_13 c31_23
abbrev c31_25 : AC := .seq c31_12 c31_24
abbrev c31_26 : AC := .loop c31_25
abbrev c31_27 : AC := .block 2 c31_26
abbrev c31_28 : AC := .seq c31_11 c31_27
abbrev c31_29 : AC := .seq c31_10 c31_28
abbrev c31_30 : AC := .block 1 c31_29
abbrev c31_31 : AC := .reg [⟨(some 54), .bin .add (.t 22) (.k (.I 1)), none⟩,
  ⟨(some 22), .mv (.t 54), none⟩] false
abbrev c31_32 : AC := .seq c31_30 c31_31
abbrev c31_33 : AC := .seq c31_9 c31_32
abbrev c31_34 : AC := .seq c31_8 c31_33
abbrev c31_35 : AC := .loop c31_34
abbrev c31_36 : AC := .block 0 c31_35
abbrev c31_37 : AC := .seq c31_7 c31_36
abbrev c31_38 : AC := .reg [⟨(some 4), .mv (.k (.B true)), none⟩] false
abbrev c31_39 : AC := .seq c31_38 .ret
abbrev c31_40 : AC := .seq c31_37 c31_39
abbrev c31_41 : AC := .seq c31_6 c31_40
abbrev c31_42 : AC := .seq c31_1 c31_41
abbrev c31 : AC := c31_42
theorem code31 : fnCode Try.prog 31 = some (c31, [4], 55) := by kernel_rfl
/- coinage/coinagebase.Ints -/
abbrev c15_1 : AC := .reg [⟨(some 4), .mv (.k (.B false)), none⟩] false
abbrev c15_2 : AC := .reg [⟨(some 6), .mv (.t 0), none⟩,
  ⟨(some 7), .len (.t 6), none⟩,
  ⟨(some 8), .mv (.t 1), none⟩,
  ⟨(some 9), .len (.t 8), none⟩,
  ⟨(some 10), .bin .neq (.t 7) (.t 9), none⟩] false
abbrev c15_3 : AC := .reg [⟨(some 4), .mv (.k (.B false)), none⟩] false
abbrev c15_4 : AC := .seq c15_3 .ret
abbrev c15_5 : AC := .cond (.t 10) c15_4 .skip
abbrev c15_6 : AC := .seq c15_2 c15_5
abbrev c15_7 : AC := .reg [⟨(some 5), .mv (.k (.I 0)), none⟩] false
abbrev c15_8 : AC := .reg [⟨(some 11), .mv (.t 5), none⟩,
  ⟨(some 12), .mv (.t 0), none⟩,
  ⟨(some 13), .len (.t 12), none⟩,
  ⟨(some 14), .bin .lss (.t 11) (.t 13), none⟩] false
abbrev c15_9 : AC := .cond (.t 14) .skip (.exit 0)
abbrev c15_10 : AC := .seq c15_8 c15_9
abbrev c15_11 : AC := .regD [(⟨(some 17), .mv (.t 0), none⟩, [0]),
  (⟨(some 18), .mv (.t 5), none⟩, [5]),
  (⟨(some 19), .iad 1 (.t 17) (.t 18), none⟩, [17, 18]),
  (⟨(some 20), .ld none (.t 19), none⟩, [19]),
  (⟨(some 21), .mv (.t 1), none⟩, [1]),
  (⟨(some 22), .mv (.t 5), none⟩, [5]),
  (⟨(some 23), .iad 1 (.t 21) (.t 22), none⟩, [21, 22]),
  (⟨(some 24), .ld none (.t 23), none⟩, [23]),
  (⟨(some 25), .bin .neq (.t 20) (.t 24), none⟩, [20, 24])]
abbrev c15_12 : AC := .reg [⟨(some 4), .mv (.k (.B false)), none⟩] false
abbrev c15_13 : AC := .seq c15_12 .ret
abbrev c15_14 : AC := .cond (.t 25) c15_13 .skip
abbrev c15_15 : AC := .seq c15_11 c15_14
abbrev c15_16 : AC := .block 1 c15_15
abbrev c15_17 : AC := .reg [⟨(some 15), .mv (.t 5), none⟩,
  ⟨(some 16), .bin .add (.t 15) (.k (.I 1)), none⟩,
  ⟨(some 5), .mv (.t 16), none⟩] false
abbrev c15_18 : AC := .seq c15_16 c15_17
abbrev c15_19 : AC := .seq c15_10 c15_18
abbrev c15_20 : AC := .loop c15_19
abbrev c15_21 : AC := .block 0 c15_20
abbrev c15_22 : AC := .seq c15_7 c15_21
abbrev c15_23 : AC := .reg [⟨(some 4), .mv (.k (.B true)), none⟩] false
abbrev c15_24 : AC := .seq c15_23 .ret
abbrev c15_25 : AC := .seq c15_22 c15_24
abbrev c15_26 : AC := .seq c15_6 c15_25
abbrev c15_27 : AC := .seq c15_1 c15_26
abbrev c15 : AC := c15_27
theorem code15 : fnCode Try.prog 15 = some (c15, [4], 26) := by kernel_rfl
/- coinage/consecutive.First -/
abbrev c41_1 : AC := .reg [⟨(some 4), .mv (.k (.c .nil)), none⟩,
  ⟨(some 5), .mv (.k (.I 0)), none⟩] false
abbrev c41_2 : AC := .reg [⟨(some 8), .mv (.t 0), none⟩,
  ⟨(some 9), .mv (.t 1), none⟩,
  ⟨(some 10), .call 31 [(.t 8), (.t 9)], none⟩,
  ⟨(some 11), .not (.t 10), none⟩] false
abbrev c41_3 : AC := .reg [⟨(some 4), .mv (.k (.c .nil)), none⟩,
  ⟨(some 5), .mv (.k (.I 1)), none⟩] false
abbrev c41_4 : AC := .seq c41_3 .ret
abbrev c41_5 : AC := .cond (.t 11) c41_4 .skip
abbrev c41_6 : AC := .seq c41_2 c41_5
abbrev c41_7 : AC := .reg [⟨(some 6), .alloc 25 [(.c .nil)], none⟩] false
abbrev c41_8 : AC := .reg [⟨(some 7), .alloc 4 [(.B false)], none⟩,
  ⟨none, .st none (.t 7) (.k (.B false)), none⟩] false
abbrev c41_9 : AC := .reg [⟨(some 12), .mv (.t 0), none⟩,
  ⟨(some 13), .mv (.t 1), none⟩,
  ⟨(some 14), .mkfn 46 [(.t 6), (.t 7)], none⟩,
  ⟨(some 15), .call 45 [(.t 12), (.t 13), (.t 14)], none⟩] false
abbrev c41_10 : AC := .reg [⟨(some 16), .ld none (.t 7), none⟩,
  ⟨(some 17), .not (.t 16), none⟩] false
abbrev c41_11 : AC := .reg [⟨(some 4), .mv (.k (.c .nil)), none⟩,
  ⟨(some 5), .mv (.k (.I 7)), none⟩] false
abbrev c41_12 : AC := .seq c41_11 .ret
abbrev c41_13 : AC := .cond (.t 17) c41_12 .skip
abbrev c41_14 : AC := .seq c41_10 c41_13
abbrev c41_15 : AC := .reg [⟨(some 18), .ld none (.t 6), none⟩,
  ⟨(some 4), .mv (.t 18), none⟩,
  ⟨(some 5), .mv (.k (.I 0)), none⟩] false
abbrev c41_16 : AC := .seq c41_15 .ret
abbrev c41_17 : AC := .seq c41_14 c41_16
abbrev c41_18 : AC := .seq c41_9 c41_17
abbrev c41_19 : AC := .seq c41_8 c41_18
abbrev c41_20 : AC := .seq c41_7 c41_19
abbrev c41_21 : AC := .seq c41_6 c41_20
abbrev c41_22 : AC := .seq c41_1 c41_21
abbrev c41 : AC := c41_22
theorem code41 : fnCode Try.prog 41 = some (c41, [4, 5], 19) := by kernel_rfl
/- coinage/coinagebase.Has -/
abbrev c20_1 : AC := .reg [⟨(some 4), .mv (.k (.B false)), none⟩] false
abbrev c20_2 : AC := .reg [⟨(some 5), .mv (.k (.I 0)), none⟩] false
abbrev c20_3 : AC := .reg [⟨(some 6), .mv (.t 5), none⟩,
  ⟨(some 7), .mv (.t 0), none⟩,
  ⟨(some 8), .len (.t 7), none⟩,
  ⟨(some 9), .bin .lss (.t 6) (.t 8), none⟩] false
abbrev c20_4 : AC := .cond (.t 9) .skip (.exit 0)
abbrev c20_5 : AC := .seq c20_3 c20_4
abbrev c20_6 : AC := .reg [⟨(some 12), .mv (.t 0), none⟩,
  ⟨(some 13), .mv (.t 5), none⟩,
  ⟨(some 14), .iad 1 (.t 12) (.t 13), none⟩,
  ⟨(some 15), .ld none (.t 14), none⟩,
  ⟨(some 16), .mv (.t 1), none⟩,
  ⟨(some 17), .bin .eql (.t 15) (.t 16), none⟩] false
abbrev c20_7 : AC := .reg [⟨(some 4), .mv (.k (.B true)), none⟩] false
abbrev c20_8 : AC := .seq c20_7 .ret
abbrev c20_9 : AC := .cond (.t 17) c20_8 .skip
abbrev c20_10 : AC := .seq c20_6 c20_9
abbrev c20_11 : AC := .block 1 c20_10
abbrev c20_12 : AC := .reg [⟨(some 10), .mv (.t 5), none⟩,
  ⟨(some 11), .bin .add (.t 10) (.k (.I 1)), none⟩,
  ⟨(some 5), .mv (.t 11), none⟩] false
abbrev c20_13 : AC := .seq c20_11 c20_12
abbrev c20_14 : AC := .seq c20_5 c20_13
abbrev c20_15 : AC := .loop c20_14
abbrev c20_16 : AC := .block 0 c20_15
abbrev c20_17 : AC := .seq c20_2 c20_16
abbrev c20_18 : AC := .reg [⟨(some 4), .mv (.k (.B false)), none⟩] false
abbrev c20_19 : AC := .seq c20_18 .ret
abbrev c20_20 : AC := .seq c20_17 c20_19
abbrev c20_21 : AC := .seq c20_1 c20_20
abbrev c20 : AC := c20_21
theorem code20 : fnCode Try.prog 20 = some (c20, [4], 18) := by kernel_rfl
/- coinage/coinagebase.Table -/
abbrev c21_1 : AC := .reg [⟨(some 4), .mv (.k (.B false)), none⟩] false
abbrev c21_2 : AC := .reg [⟨(some 6), .mv (.t 0), none⟩,
  ⟨(some 7), .bin .lss (.t 6) (.k (.I 0)), none⟩,
  ⟨(some 8), .mv (.t 7), none⟩,
  ⟨(some 9), .mv (.t 0), (some (8, false))⟩,
  ⟨(some 10), .bin .gtr (.t 9) (.k (.I 7)), (some (8, false))⟩,
  ⟨(some 11), .pick (.t 8) (.k (.B true)) (.t 10), none⟩,
  ⟨(some 12), .mv (.t 11), none⟩,
  ⟨(some 13), .mv (.t 1), (some (12, false))⟩,
  ⟨(some 14), .len (.t 13), (some (12, false))⟩,
  ⟨(some 15), .bin .gtr (.t 14) (.k (.I 16)), (some (12, false))⟩,
  ⟨(some 16), .pick (.t 12) (.k (.B true)) (.t 15), none⟩] false
abbrev c21_3 : AC := .reg [⟨(some 4), .mv (.k (.B false)), none⟩] false
abbrev c21_4 : AC := .seq c21_3 .ret
abbrev c21_5 : AC := .cond (.t 16) c21_4 .skip
abbrev c21_6 : AC := .seq c21_2 c21_5
abbrev c21_7 : AC := .reg [⟨(some 5), .mv (.k (.I 0)), none⟩] false
abbrev c21_8 : AC := .reg [⟨(some 17), .mv (.t 5), none⟩,
  ⟨(some 18), .mv (.t 1), none⟩,
  ⟨(some 19), .len (.t 18), none⟩,
  ⟨(some 20), .bin .lss (.t 17) (.t 19), none⟩] false
abbrev c21_9 : AC := .cond (.t 20) .skip (.exit 0)
abbrev c21_10 : AC := .seq c21_8 c21_9
abbrev c21_11 : AC := .reg [⟨(some 23), .mv (.t 1), none⟩,
  ⟨(some 24), .mv (.t 5), none⟩,
  ⟨(some 25), .iad 1 (.t 23) (.t 24), none⟩,
  ⟨(some 26), .ld none (.t 25), none⟩,
  ⟨(some 27), .mv (.t 0), none⟩,
  ⟨(some 28), .bin .sub (.t 27) (.k (.I 1)), none⟩,
  ⟨(some 29), .call 22 [(.t 26), (.k (.I 0)), (.t 28)], none⟩,
  ⟨(some 30), .not (.t 29), none⟩] false
abbrev c21_12 : AC := .reg [⟨(some 4), .mv (.k (.B false)), none⟩] false
abbrev c21_13 : AC := .seq c21_12 .ret
abbrev c21_14 : AC := .cond (.t 30) c21_13 .skip
abbrev c21_15 : AC := .seq c21_11 c21_14
abbrev c21_16 : AC := .block 1 c21_15
abbrev c21_17 : AC := .reg [⟨(some 21), .mv (.t 5), none⟩,
  ⟨(some 22), .bin .add (.t 21) (.k (.I 1)), none⟩,
  ⟨(some 5), .mv (.t 22), none⟩] false
abbrev c21_18 : AC := .seq c21_16 c21_17
abbrev c21_19 : AC := .seq c21_10 c21_18
abbrev c21_20 : AC := .loop c21_19
abbrev c21_21 : AC := .block 0 c21_20
abbrev c21_22 : AC := .seq c21_7 c21_21
abbrev c21_23 : AC := .reg [⟨(some 4), .mv (.k (.B true)), none⟩] false
abbrev c21_24 : AC := .seq c21_23 .ret
abbrev c21_25 : AC := .seq c21_22 c21_24
abbrev c21_26 : AC := .seq c21_6 c21_25
abbrev c21_27 : AC := .seq c21_1 c21_26
abbrev c21 : AC := c21_27
theorem code21 : fnCode Try.prog 21 = some (c21, [4], 31) := by kernel_rfl
/- coinage/coinagebase.Ascending -/
abbrev c22_1 : AC := .reg [⟨(some 6), .mv (.k (.B false)), none⟩] false
abbrev c22_2 : AC := .reg [⟨(some 7), .mv (.k (.I 0)), none⟩] false
abbrev c22_3 : AC := .reg [⟨(some 8), .mv (.t 7), none⟩,
  ⟨(some 9), .mv (.t 0), none⟩,
  ⟨(some 10), .len (.t 9), none⟩,
  ⟨(some 11), .bin .lss (.t 8) (.t 10), none⟩] false
abbrev c22_4 : AC := .cond (.t 11) .skip (.exit 0)
abbrev c22_5 : AC := .seq c22_3 c22_4
abbrev c22_6 : AC := .regD [(⟨(some 14), .mv (.t 0), none⟩, [0]),
  (⟨(some 15), .mv (.t 7), none⟩, [7]),
  (⟨(some 16), .iad 1 (.t 14) (.t 15), none⟩, [14, 15]),
  (⟨(some 17), .ld none (.t 16), none⟩, [16]),
  (⟨(some 18), .mv (.t 1), none⟩, [1]),
  (⟨(some 19), .bin .lss (.t 17) (.t 18), none⟩, [17, 18]),
  (⟨(some 20), .mv (.t 19), none⟩, [19]),
  (⟨(some 21), .mv (.t 0), (some (20, false))⟩, [0, 20]),
  (⟨(some 22), .mv (.t 7), (some (20, false))⟩, [7, 20]),
  (⟨(some 23), .iad 1 (.t 21) (.t 22), (some (20, false))⟩, [21, 22, 20]),
  (⟨(some 24), .ld none (.t 23), (some (20, false))⟩, [23, 20]),
  (⟨(some 25), .mv (.t 2), (some (20, false))⟩, [2, 20]),
  (⟨(some 26), .bin .gtr (.t 24) (.t 25), (some (20, false))⟩, [24, 25, 20]),
  (⟨(some 27), .pick (.t 20) (.k (.B true)) (.t 26), none⟩, [20, 26]),
  (⟨(some 28), .mv (.t 27), none⟩, [27]),
  (⟨(some 29), .mv (.t 7), (some (28, false))⟩, [7, 28]),
  (⟨(some 30), .bin .gtr (.t 29) (.k (.I 0)), (some (28, false))⟩, [29, 28]),
  (⟨(some 31), .mv (.t 30), (some (28, false))⟩, [30, 28]),
  (⟨(some 32), .mv (.t 0), (some (31, true))⟩, [0, 31]),
  (⟨(some 33), .mv (.t 7), (some (31, true))⟩, [7, 31]),
  (⟨(some 34), .iad 1 (.t 32) (.t 33), (some (31, true))⟩, [32, 33, 31]),
  (⟨(some 35), .ld none (.t 34), (some (31, true))⟩, [34, 31]),
  (⟨(some 36), .mv (.t 0), (some (31, true))⟩, [0, 31]),
  (⟨(some 37), .mv (.t 7), (some (31, true))⟩, [7, 31]),
  (⟨(some 38), .bin .sub (.t 37) (.k (.I 1)), (some (31, true))⟩, [37, 31]),
  (⟨(some 39), .iad 1 (.t 36) (.t 38), (some (31, true))⟩, [36, 38, 31]),
  (⟨(some 40), .ld none (.t 39), (some (31, true))⟩, [39, 31]),
  (⟨(some 41), .bin .leq (.t 35) (.t 40), (some (31, true))⟩, [35, 40, 31]),
  (⟨(some 42), .pick (.t 31) (.t 41) (.k (.B false)), (some (28, false))⟩, [31, 41, 28]),
  (⟨(some 43), .pick (.t 28) (.k (.B true)) (.t 42), none⟩, [28, 42])]
abbrev c22_7 : AC := .reg [⟨(some 6), .mv (.k (.B false)), none⟩] false
abbrev c22_8 : AC := .seq c22_7 .ret
abbrev c22_9 : AC := .cond (.t 43) c22_8 .skip
abbrev c22_10 : AC := .seq c22_6 c22_9
abbrev c22_11 : AC := .block 1 c22_10
abbrev c22_12 : AC := .reg [⟨(some 12), .mv (.t 7), none⟩,
  ⟨(some 13), .bin .add (.t 12) (.k (.I 1)), none⟩,
  ⟨(some 7), .mv (.t 13), none⟩] false
abbrev c22_13 : AC := .seq c22_11 c22_12
abbrev c22_14 : AC := .seq c22_5 c22_13
abbrev c22_15 : AC := .loop c22_14
abbrev c22_16 : AC := .block 0 c22_15
abbrev c22_17 : AC := .seq c22_2 c22_16
abbrev c22_18 : AC := .reg [⟨(some 6), .mv (.k (.B true)), none⟩] false
abbrev c22_19 : AC := .seq c22_18 .ret
abbrev c22_20 : AC := .seq c22_17 c22_19
abbrev c22_21 : AC := .seq c22_1 c22_20
abbrev c22 : AC := c22_21
theorem code22 : fnCode Try.prog 22 = some (c22, [6], 44) := by kernel_rfl
/- slices.Index[[]int,int] -/
abbrev c52_1 : AC := .reg [⟨(some 4), .mv (.k (.I 0)), none⟩] false
abbrev c52_2 : AC := .reg [⟨(some 6), .mv (.t 0), none⟩,
  ⟨(some 7), .len (.t 6), none⟩,
  ⟨(some 8), .mv (.k (.I 0)), none⟩] false
abbrev c52_3 : AC := .reg [⟨(some 9), .bin .lss (.t 8) (.t 7), none⟩] false
abbrev c52_4 : AC := .cond (.t 9) .skip (.exit 0)
abbrev c52_5 : AC := .reg [⟨(some 10), .mv (.t 8), none⟩,
  ⟨(some 5), .mv (.t 10), none⟩] false
abbrev c52_6 : AC := .reg [⟨(some 11), .mv (.t 1), none⟩,
  ⟨(some 12), .mv (.t 0), none⟩,
  ⟨(some 13), .mv (.t 5), none⟩,
  ⟨(some 14), .iad 1 (.t 12) (.t 13), none⟩,
  ⟨(some 15), .ld none (.t 14), none⟩,
  ⟨(some 16), .bin .eql (.t 11) (.t 15), none⟩] false
abbrev c52_7 : AC := .reg [⟨(some 17), .mv (.t 5), none⟩,
  ⟨(some 4), .mv (.t 17), none⟩] false
abbrev c52_8 : AC := .seq c52_7 .ret
abbrev c52_9 : AC := .cond (.t 16) c52_8 .skip
abbrev c52_10 : AC := .seq c52_6 c52_9
abbrev c52_11 : AC := .seq c52_5 c52_10
abbrev c52_12 : AC := .block 1 c52_11
abbrev c52_13 : AC := .reg [⟨(some 18), .bin .add (.t 8) (.k (.I 1)), none⟩,
  ⟨(some 8), .mv (.t 18), none⟩] false
abbrev c52_14 : AC := .seq c52_12 c52_13
abbrev c52_15 : AC := .seq c52_4 c52_14
abbrev c52_16 : AC := .seq c52_3 c52_15
abbrev c52_17 : AC := .loop c52_16
abbrev c52_18 : AC := .block 0 c52_17
abbrev c52_19 : AC := .seq c52_2 c52_18
abbrev c52_20 : AC := .reg [⟨(some 4), .mv (.k (.I (-1))), none⟩] false
abbrev c52_21 : AC := .seq c52_20 .ret
abbrev c52_22 : AC := .seq c52_19 c52_21
abbrev c52_23 : AC := .seq c52_1 c52_22
abbrev c52 : AC := c52_23
theorem code52 : fnCode Try.prog 52 = some (c52, [4], 19) := by kernel_rfl
/- slices.Clone[[]int,int] -/
abbrev c37_1 : AC := .reg [⟨(some 2), .mv (.k (.c .nil)), none⟩] false
abbrev c37_2 : AC := .reg [⟨(some 3), .mv (.t 0), none⟩,
  ⟨(some 4), .isnil false (.t 3), none⟩] false
abbrev c37_3 : AC := .reg [⟨(some 2), .mv (.k (.c .nil)), none⟩] false
abbrev c37_4 : AC := .seq c37_3 .ret
abbrev c37_5 : AC := .cond (.t 4) c37_4 .skip
abbrev c37_6 : AC := .seq c37_2 c37_5
abbrev c37_7 : AC := .reg [⟨(some 5), .bslice 3 1 [], none⟩,
  ⟨(some 6), .mv (.t 0), none⟩,
  ⟨(some 7), .app 3 1 8 (.t 5) (.t 6), none⟩,
  ⟨(some 2), .mv (.t 7), none⟩] false
abbrev c37_8 : AC := .seq c37_7 .ret
abbrev c37_9 : AC := .seq c37_6 c37_8
abbrev c37_10 : AC := .seq c37_1 c37_9
abbrev c37 : AC := c37_10
theorem code37 : fnCode Try.prog 37 = some (c37, [2], 8) := by kernel_rfl
/- coinage/consecutive.visitAll -/
abbrev c45_1 : AC := .reg [⟨(some 6), .mv (.k (.c .nil)), none⟩] false
abbrev c45_2 : AC := .reg [⟨(some 9), .mv (.t 1), none⟩,
  ⟨(some 10), .len (.t 9), none⟩,
  ⟨(some 11), .mv (.k (.I 0)), none⟩] false
abbrev c45_3 : AC := .reg [⟨(some 12), .bin .lss (.t 11) (.t 10), none⟩] false
abbrev c45_4 : AC := .cond (.t 12) .skip (.exit 0)
abbrev c45_5 : AC := .reg [⟨(some 13), .iad 1 (.t 9) (.t 11), none⟩,
  ⟨(some 14), .ld none (.t 13), none⟩,
  ⟨(some 8), .mv (.t 14), none⟩] false
abbrev c45_6 : AC := .reg [⟨(some 15), .mv (.t 6), none⟩,
  ⟨(some 16), .mv (.t 8), none⟩,
  ⟨(some 17), .len (.t 16), none⟩,
  ⟨(some 18), .bslice 3 1 [(.t 17)], none⟩,
  ⟨(some 19), .app 3 1 8 (.t 15) (.t 18), none⟩,
  ⟨(some 6), .mv (.t 19), none⟩] false
abbrev c45_7 : AC := .seq c45_5 c45_6
abbrev c45_8 : AC := .block 1 c45_7
abbrev c45_9 : AC := .reg [⟨(some 20), .bin .add (.t 11) (.k (.I 1)), none⟩,
  ⟨(some 11), .mv (.t 20), none⟩] false
abbrev c45_10 : AC := .seq c45_8 c45_9
abbrev c45_11 : AC := .seq c45_4 c45_10
abbrev c45_12 : AC := .seq c45_3 c45_11
abbrev c45_13 : AC := .loop c45_12
abbrev c45_14 : AC := .block 0 c45_13
abbrev c45_15 : AC := .seq c45_2 c45_14
abbrev c45_16 : AC := .reg [⟨(some 21), .mv (.t 0), none⟩,
  ⟨(some 22), .mv (.t 1), none⟩,
  ⟨(some 23), .mv (.t 6), none⟩,
  ⟨(some 24), .mv (.t 2), none⟩,
  ⟨(some 25), .call 49 [(.t 21), (.t 22), (.k (.c .nil)), (.t 23), (.t 24)], none⟩] false
abbrev c45_17 : AC := .seq c45_15 c45_16
abbrev c45_18 : AC := .seq c45_1 c45_17
abbrev c45 : AC := c45_18
theorem code45 : fnCode Try.prog 45 = some (c45, [], 26) := by kernel_rfl
/- coinage/consecutive.First$1 -/
abbrev c46_1 : AC := .reg [⟨(some 4), .mv (.k (.B false)), none⟩] false
abbrev c46_2 : AC := .reg [⟨(some 5), .mv (.t 0), none⟩,
  ⟨none, .st none (.t 1) (.t 5), none⟩,
  ⟨none, .st none (.t 2) (.k (.B true)), none⟩] false
abbrev c46_3 : AC := .reg [⟨(some 4), .mv (.k (.B false)), none⟩] false
abbrev c46_4 : AC := .seq c46_3 .ret
abbrev c46_5 : AC := .seq c46_2 c46_4
abbrev c46_6 : AC := .seq c46_1 c46_5
abbrev c46 : AC := c46_6
theorem code46 : fnCode Try.prog 46 = some (c46, [4], 6) := by kernel_rfl
/- coinage/coinagebase.Order -/
abbrev c39_1 : AC := .reg [⟨(some 4), .mv (.k (.B false)), none⟩] false
abbrev c39_2 : AC := .reg [⟨(some 7), .mv (.t 0), none⟩,
  ⟨(some 8), .len (.t 7), none⟩,
  ⟨(some 9), .mv (.t 1), none⟩,
  ⟨(some 10), .bin .neq (.t 8) (.t 9), none⟩] false
abbrev c39_3 : AC := .reg [⟨(some 4), .mv (.k (.B false)), none⟩] false
abbrev c39_4 : AC := .seq c39_3 .ret
abbrev c39_5 : AC := .cond (.t 10) c39_4 .skip
abbrev c39_6 : AC := .seq c39_2 c39_5
abbrev c39_7 : AC := .reg [⟨(some 5), .mv (.k (.I 0)), none⟩] false
abbrev c39_8 : AC := .reg [⟨(some 11), .mv (.t 5), none⟩,
  ⟨(some 12), .mv (.t 1), none⟩,
  ⟨(some 13), .bin .lss (.t 11) (.t 12), none⟩] false
abbrev c39_9 : AC := .cond (.t 13) .skip (.exit 0)
abbrev c39_10 : AC := .seq c39_8 c39_9
abbrev c39_11 : AC := .reg [⟨(some 16), .mv (.t 0), none⟩,
  ⟨(some 17), .mv (.t 5), none⟩,
  ⟨(some 18), .iad 1 (.t 16) (.t 17), none⟩,
  ⟨(some 19), .ld none (.t 18), none⟩,
  ⟨(some 20), .bin .lss (.t 19) (.k (.I 0)), none⟩,
  ⟨(some 21), .mv (.t 20), none⟩,
  ⟨(some 22), .mv (.t 0), (some (21, false))⟩,
  ⟨(some 23), .mv (.t 5), (some (21, false))⟩,
  ⟨(some 24), .iad 1 (.t 22) (.t 23), (some (21, false))⟩,
  ⟨(some 25), .ld none (.t 24), (some (21, false))⟩,
  ⟨(some 26), .mv (.t 1), (some (21, false))⟩,
  ⟨(some 27), .bin .geq (.t 25) (.t 26), (some (21, false))⟩,
  ⟨(some 28), .pick (.t 21) (.k (.B true)) (.t 27), none⟩] false
abbrev c39_12 : AC := .reg [⟨(some 4), .mv (.k (.B false)), none⟩] false
abbrev c39_13 : AC := .seq c39_12 .ret
abbrev c39_14 : AC := .cond (.t 28) c39_13 .skip
abbrev c39_15 : AC := .seq c39_11 c39_14
abbrev c39_16 : AC := .reg [⟨(some 6), .mv (.k (.I 0)), none⟩] false
abbrev c39_17 : AC := .reg [⟨(some 29), .mv (.t 6), none⟩,
  ⟨(some 30), .mv (.t 5), none⟩,
  ⟨(some 31), .bin .lss (.t 29) (.t 30), none⟩] false
abbrev c39_18 : AC := .cond (.t 31) .skip (.exit 2)
abbrev c39_19 : AC := .seq c39_17 c39_18
abbrev c39_20 : AC := .regD [(⟨(some 34), .mv (.t 0), none⟩, [0]),
  (⟨(some 35), .mv (.t 5), none⟩, [5]),
  (⟨(some 36), .iad 1 (.t 34) (.t 35), none⟩, [34, 35]),
  (⟨(some 37), .ld none (.t 36), none⟩, [36]),
  (⟨(some 38), .mv (.t 0), none⟩, [0]),
  (⟨(some 39), .mv (.t 6), none⟩, [6]),
  (⟨(some 40), .iad 1 (.t 38) (.t 39), none⟩, [38, 39]),
  (⟨(some 41), .ld none (.t 40), none⟩, [40]),
  (⟨(some 42), .bin .eql (.t 37) (.t 41), none⟩, [37, 41])]
abbrev c39_21 : AC := .reg [⟨(some 4), .mv (.k (.B false)), none⟩] false
abbrev c39_22 : AC := .seq c39_21 .ret
abbrev c39_23 : AC := .cond (.t 42) c39_22 .skip
abbrev c39_24 : AC := .seq c39_20 c39_23
abbrev c39_25 : AC := .block 3 c39_24
abbrev c39_26 : AC := .reg [⟨(some 32), .mv (.t 6), none⟩,
  ⟨(some 33), .bin .add (.t 32) (.k (.I 1)), none⟩,
  ⟨(some 6), .mv (.t 33), none⟩] false
abbrev c39_27 : AC := .seq c39_25 c39_26
abbrev c39_28 : AC := .seq c39_19 c39_27
abbrev c39_29 : AC := .loop c39_28
abbrev c39_30 : AC := .block 2 c39_29
abbrev c39_31 : AC := .seq c39_16 c39_30
abbrev c39_32 : AC := .seq c39_15 c39_31
abbrev c39_33 : AC := .block 1 c39_32
abbrev c39_34 : AC := .reg [⟨(some 14), .mv (.t 5), none⟩,
  ⟨(some 15), .bin .add (.t 14) (.k (.I 1)), none⟩,
  ⟨(some 5), .mv (.t 15), none⟩] false
abbrev c39_35 : AC := .seq c39_33 c39_34
abbrev c39_36 : AC := .seq c39_10 c39_35
abbrev c39_37 : AC := .loop c39_36
abbrev c39_38 : AC := .block 0 c39_37
abbrev c39_39 : AC := .seq c39_7 c39_38
abbrev c39_40 : AC := .reg [⟨(some 4), .mv (.k (.B true)), none⟩] false
abbrev c39_41 : AC := .seq c39_40 .ret
abbrev c39_42 : AC := .seq c39_39 c39_41
abbrev c39_43 : AC := .seq c39_6 c39_42
abbrev c39_44 : AC := .seq c39_1 c39_43
abbrev c39 : AC := c39_44
theorem code39 : fnCode Try.prog 39 = some (c39, [4], 43) := by kernel_rfl
/- slices.Contains[[]int,int] -/
abbrev c48_1 : AC := .reg [⟨(some 4), .mv (.k (.B false)), none⟩] false
abbrev c48_2 : AC := .reg [⟨(some 5), .mv (.t 0), none⟩,
  ⟨(some 6), .mv (.t 1), none⟩,
  ⟨(some 7), .call 52 [(.t 5), (.t 6)], none⟩,
  ⟨(some 8), .bin .geq (.t 7) (.k (.I 0)), none⟩,
  ⟨(some 4), .mv (.t 8), none⟩] false
abbrev c48_3 : AC := .seq c48_2 .ret
abbrev c48_4 : AC := .seq c48_1 c48_3
abbrev c48 : AC := c48_4
theorem code48 : fnCode Try.prog 48 = some (c48, [4], 9) := by kernel_rfl
/- coinage/consecutive.walk -/
abbrev c49_1 : AC := .reg [⟨(some 10), .mv (.k (.B false)), none⟩] false
abbrev c49_2 : AC := .reg [⟨(some 16), .mv (.t 2), none⟩,
  ⟨(some 17), .len (.t 16), none⟩,
  ⟨(some 18), .mv (.t 0), none⟩,
  ⟨(some 19), .bin .eql (.t 17) (.t 18), none⟩] false
abbrev c49_3 : AC := .reg [⟨(some 20), .mv (.t 4), none⟩,
  ⟨(some 21), .mv (.t 2), none⟩,
  ⟨(some 22), .callv (.t 20) [(.t 21)], none⟩,
  ⟨(some 10), .mv (.t 22), none⟩] false
abbrev c49_4 : AC := .seq c49_3 .ret
abbrev c49_5 : AC := .cond (.t 19) c49_4 .skip
abbrev c49_6 : AC := .seq c49_2 c49_5
abbrev c49_7 : AC := .reg [⟨(some 23), .mv (.t 0), none⟩,
  ⟨(some 24), .mv (.k (.I 0)), none⟩] false
abbrev c49_8 : AC := .reg [⟨(some 25), .bin .lss (.t 24) (.t 23), none⟩] false
abbrev c49_9 : AC := .cond (.t 25) .skip (.exit 0)
abbrev c49_10 : AC := .reg [⟨(some 26), .mv (.t 24), none⟩,
  ⟨(some 11), .mv (.t 26), none⟩] false
abbrev c49_11 : AC := .reg [⟨(some 27), .mv (.t 2), none⟩,
  ⟨(some 28), .mv (.t 11), none⟩,
  ⟨(some 29), .call 48 [(.t 27), (.t 28)], none⟩] false
abbrev c49_12 : AC := .cond (.t 29) (.exit 1) .skip
abbrev c49_13 : AC := .seq c49_11 c49_12
abbrev c49_14 : AC := .reg [⟨(some 30), .mv (.t 3), none⟩,
  ⟨(some 31), .call 37 [(.t 30)], none⟩,
  ⟨(some 12), .mv (.t 31), none⟩,
  ⟨(some 13), .mv (.k (.B true)), none⟩] false
abbrev c49_15 : AC := .reg [⟨(some 32), .mv (.t 1), none⟩,
  ⟨(some 33), .len (.t 32), none⟩,
  ⟨(some 34), .mv (.k (.I 0)), none⟩] false
abbrev c49_16 : AC := .reg [⟨(some 35), .bin .lss (.t 34) (.t 33), none⟩] false
abbrev c49_17 : AC := .cond (.t 35) .skip (.exit 2)
abbrev c49_18 : AC := .reg [⟨(some 36), .mv (.t 34), none⟩,
  ⟨(some 37), .iad 1 (.t 32) (.t 34), none⟩,
  ⟨(some 38), .ld none (.t 37), none⟩,
  ⟨(some 14), .mv (.t 36), none⟩,
  ⟨(some 15), .mv (.t 38), none⟩] false
abbrev c49_19 : AC := .reg [⟨(some 39), .mv (.t 15), none⟩,
  ⟨(some 40), .mv (.t 11), none⟩,
  ⟨(some 41), .call 48 [(.t 39), (.t 40)], none⟩] false
abbrev c49_20 : AC := .reg [⟨(some 42), .mv (.t 12), none⟩,
  ⟨(some 43), .mv (.t 14), none⟩,
  ⟨(some 44), .iad 1 (.t 42) (.t 43), none⟩,
  ⟨(some 45), .ld none (.t 44), none⟩,
  ⟨(some 46), .bin .sub (.t 45) (.k (.I 1)), none⟩,
  ⟨(some 47), .iad 1 (.t 42) (.t 43), none⟩,
  ⟨none, .st none (.t 47) (.t 46), none⟩] false
abbrev c49_21 : AC := .reg [⟨(some 48), .mv (.t 3), none⟩,
  ⟨(some 49), .mv (.t 14), none⟩,
  ⟨(some 50), .iad 1 (.t 48) (.t 49), none⟩,
  ⟨(some 51), .ld none (.t 50), none⟩,
  ⟨(some 52), .bin .gtr (.t 51) (.k (.I 0)), none⟩,
  ⟨(some 53), .mv (.t 52), none⟩,
  ⟨(some 54), .mv (.t 3), (some (53, true))⟩,
  ⟨(some 55), .mv (.t 14), (some (53, true))⟩,
  ⟨(some 56), .iad 1 (.t 54) (.t 55), (some (53, true))⟩,
  ⟨(some 57), .ld none (.t 56), (some (53, true))⟩,
  ⟨(some 58), .mv (.t 15), (some (53, true))⟩,
  ⟨(some 59), .len (.t 58), (some (53, true))⟩,
  ⟨(some 60), .bin .lss (.t 57) (.t 59), (some (53, true))⟩,
  ⟨(some 61), .pick (.t 53) (.t 60) (.k (.B false)), none⟩] false
abbrev c49_22 : AC := .reg [⟨(some 13), .mv (.k (.B false)), none⟩] false
abbrev c49_23 : AC := .cond (.t 61) c49_22 .skip
abbrev c49_24 : AC := .seq c49_21 c49_23
abbrev c49_25 : AC := .cond (.t 41) c49_20 c49_24
abbrev c49_26 : AC := .seq c49_19 c49_25
abbrev c49_27 : AC := .seq c49_18 c49_26
abbrev c49_28 : AC := .block 3 c49_27
abbrev c49_29 : AC := .reg [⟨(some 62), .bin .add (.t 34) (.k (.I 1)), none⟩,
  ⟨(some 34), .mv (.t 62), none⟩] false
abbrev c49_30 : AC := .seq c49_28 c49_29
abbrev c49_31 : AC := .seq c49_17 c49_30
abbrev c49_32 : AC := .seq c49_16 c49_31
abbrev c49_33 : AC := .loop c49_32
abbrev c49_34 : AC := .block 2 c49_33
abbrev c49_35 : AC := .seq c49_15 c49_34
abbrev c49_36 : AC := .reg [⟨(some 63), .mv (.t 13), none⟩,
  ⟨(some 64), .mv (.t 63), none⟩,
  ⟨(some 65), .mv (.t 0), (some (64, true))⟩,
  ⟨(some 66), .mv (.t 1), (some (64, true))⟩,
  ⟨(some 67), .mv (.t 2), (some (64, true))⟩,
  ⟨(some 68), .call 37 [(.t 67)], (some (64, true))⟩,
  ⟨(some 69), .mv (.t 11), (some (64, true))⟩,
  ⟨(some 70), .bslice 3 1 [(.t 69)], (some (64, true))⟩,
  ⟨(some 71), .app 3 1 8 (.t 68) (.t 70), (some (64, true))⟩,
  ⟨(some 72), .mv (.t 12), (some (64, true))⟩,
  ⟨(some 73), .mv (.t 4), (some (64, true))⟩,
  ⟨(some 74), .call 49 [(.t 65), (.t 66), (.t 71), (.t 72), (.t 73)], (some (64, true))⟩,
  ⟨(some 75), .not (.t 74), (some (64, true))⟩,
  ⟨(some 76), .pick (.t 64) (.t 75) (.k (.B false)), none⟩] false
abbrev c49_37 : AC := .reg [⟨(some 10), .mv (.k (.B false)), none⟩] false
abbrev c49_38 : AC := .seq c49_37 .ret
abbrev c49_39 : AC := .cond (.t 76) c49_38 .skip
abbrev c49_40 : AC := .seq c49_36 c49_39
abbrev c49_41 : AC := .seq c49_35 c49_40
abbrev c49_42 : AC := .seq c49_14 c49_41
abbrev c49_43 : AC := .seq c49_13 c49_42
abbrev c49_44 : AC := .seq c49_10 c49_43
abbrev c49_45 : AC := .block 1 c49_44
abbrev c49_46 : AC := .reg [⟨(some 77), .bin .add (.t 24) (.k (.I 1)), none⟩,
  ⟨(some 24), .mv (.t 77), none⟩] false
abbrev c49_47 : AC := .seq c49_45 c49_46
abbrev c49_48 : AC := .seq c49_9 c49_47
abbrev c49_49 : AC := .seq c49_8 c49_48
abbrev c49_50 : AC := .loop c49_49
abbrev c49_51 : AC := .block 0 c49_50
abbrev c49_52 : AC := .seq c49_7 c49_51
abbrev c49_53 : AC := .reg [⟨(some 10), .mv (.k (.B true)), none⟩] false
abbrev c49_54 : AC := .seq c49_53 .ret
abbrev c49_55 : AC := .seq c49_52 c49_54
abbrev c49_56 : AC := .seq c49_6 c49_55
abbrev c49_57 : AC := .seq c49_1 c49_56
abbrev c49 : AC := c49_57
theorem code49 : fnCode Try.prog 49 = some (c49, [10], 78) := by kernel_rfl

end Go.Proofs.Ytjplkpppjlgheaa

