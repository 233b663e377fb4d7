/-
  Lemmas for the proof: no statement of its own.
-/
import Derived.Test.YtebmhidhimgfiaaProg
import Derived.Test.YtebmhidhimgfiaaAlD
import Derived.KernelRfl
set_option linter.unusedVariables false
set_option linter.unusedSimpArgs false
open Go Go.AL
namespace Go.Proofs.Ytebmhidhimgfiaa
/- coinage/coinagelaw27.few -/
abbrev c10_1 : AC := .reg [⟨(some 4), .mv (.k (.B false)), none⟩] false
abbrev c10_2 : AC := .reg [⟨(some 6), .mv (.t 0), none⟩,
  ⟨(some 7), .bin .gtr (.t 6) (.k (.I 5)), none⟩,
  ⟨(some 8), .mv (.t 7), none⟩,
  ⟨(some 9), .mv (.t 0), (some (8, true))⟩,
  ⟨(some 10), .bin .leq (.t 9) (.k (.I 7)), (some (8, true))⟩,
  ⟨(some 11), .pick (.t 8) (.t 10) (.k (.B false)), none⟩,
  ⟨(some 12), .mv (.t 11), none⟩,
  ⟨(some 13), .mv (.t 1), (some (12, false))⟩,
  ⟨(some 14), .len (.t 13), (some (12, false))⟩,
  ⟨(some 15), .bin .gtr (.t 14) (.k (.I 20)), (some (12, false))⟩,
  ⟨(some 16), .pick (.t 12) (.k (.B true)) (.t 15), none⟩] false
abbrev c10_3 : AC := .reg [⟨(some 4), .mv (.k (.B false)), none⟩] false
abbrev c10_4 : AC := .seq c10_3 .ret
abbrev c10_5 : AC := .cond (.t 16) c10_4 .skip
abbrev c10_6 : AC := .seq c10_2 c10_5
abbrev c10_7 : AC := .reg [⟨(some 5), .mv (.k (.I 0)), none⟩] false
abbrev c10_8 : AC := .reg [⟨(some 17), .mv (.t 5), none⟩,
  ⟨(some 18), .mv (.t 1), none⟩,
  ⟨(some 19), .len (.t 18), none⟩,
  ⟨(some 20), .bin .lss (.t 17) (.t 19), none⟩] false
abbrev c10_9 : AC := .cond (.t 20) .skip (.exit 0)
abbrev c10_10 : AC := .seq c10_8 c10_9
abbrev c10_11 : AC := .reg [⟨(some 23), .mv (.t 1), none⟩,
  ⟨(some 24), .mv (.t 5), none⟩,
  ⟨(some 25), .iad 1 (.t 23) (.t 24), none⟩,
  ⟨(some 26), .ld none (.t 25), none⟩,
  ⟨(some 27), .len (.t 26), none⟩,
  ⟨(some 28), .bin .gtr (.t 27) (.k (.I 30)), none⟩] false
abbrev c10_12 : AC := .reg [⟨(some 4), .mv (.k (.B false)), none⟩] false
abbrev c10_13 : AC := .seq c10_12 .ret
abbrev c10_14 : AC := .cond (.t 28) c10_13 .skip
abbrev c10_15 : AC := .seq c10_11 c10_14
abbrev c10_16 : AC := .block 1 c10_15
abbrev c10_17 : AC := .reg [⟨(some 21), .mv (.t 5), none⟩,
  ⟨(some 22), .bin .add (.t 21) (.k (.I 1)), none⟩,
  ⟨(some 5), .mv (.t 22), none⟩] false
abbrev c10_18 : AC := .seq c10_16 c10_17
abbrev c10_19 : AC := .seq c10_10 c10_18
abbrev c10_20 : AC := .loop c10_19
abbrev c10_21 : AC := .block 0 c10_20
abbrev c10_22 : AC := .seq c10_7 c10_21
abbrev c10_23 : AC := .reg [⟨(some 4), .mv (.k (.B true)), none⟩] false
abbrev c10_24 : AC := .seq c10_23 .ret
abbrev c10_25 : AC := .seq c10_22 c10_24
abbrev c10_26 : AC := .seq c10_6 c10_25
abbrev c10_27 : AC := .seq c10_1 c10_26
abbrev c10 : AC := c10_27
theorem code10 : fnCode Try.prog 10 = some (c10, [4], 29) := by kernel_rfl
/- coinage/coinagebase.Lists -/
abbrev c27_1 : AC := .reg [⟨(some 4), .mv (.k (.B false)), none⟩] false
abbrev c27_2 : AC := .reg [⟨(some 6), .mv (.t 0), none⟩,
  ⟨(some 7), .len (.t 6), none⟩,
  ⟨(some 8), .mv (.t 1), none⟩,
  ⟨(some 9), .len (.t 8), none⟩,
  ⟨(some 10), .bin .neq (.t 7) (.t 9), none⟩] false
abbrev c27_3 : AC := .reg [⟨(some 4), .mv (.k (.B false)), none⟩] false
abbrev c27_4 : AC := .seq c27_3 .ret
abbrev c27_5 : AC := .cond (.t 10) c27_4 .skip
abbrev c27_6 : AC := .seq c27_2 c27_5
abbrev c27_7 : AC := .reg [⟨(some 5), .mv (.k (.I 0)), none⟩] false
abbrev c27_8 : AC := .reg [⟨(some 11), .mv (.t 5), none⟩,
  ⟨(some 12), .mv (.t 0), none⟩,
  ⟨(some 13), .len (.t 12), none⟩,
  ⟨(some 14), .bin .lss (.t 11) (.t 13), none⟩] false
abbrev c27_9 : AC := .cond (.t 14) .skip (.exit 0)
abbrev c27_10 : AC := .seq c27_8 c27_9
abbrev c27_11 : AC := .regD [(⟨(some 17), .mv (.t 0), none⟩, [0]),
  (⟨(some 18), .mv (.t 5), none⟩, [5]),
  (⟨(some 19), .iad 1 (.t 17) (.t 18), none⟩, [17, 18]),
  (⟨(some 20), .ld none (.t 19), none⟩, [19]),
  (⟨(some 21), .mv (.t 1), none⟩, [1]),
  (⟨(some 22), .mv (.t 5), none⟩, [5]),
  (⟨(some 23), .iad 1 (.t 21) (.t 22), none⟩, [21, 22]),
  (⟨(some 24), .ld none (.t 23), none⟩, [23]),
  (⟨(some 25), .call 16 [(.t 20), (.t 24)], none⟩, [20, 24]),
  (⟨(some 26), .not (.t 25), none⟩, [25])]
abbrev c27_12 : AC := .reg [⟨(some 4), .mv (.k (.B false)), none⟩] false
abbrev c27_13 : AC := .seq c27_12 .ret
abbrev c27_14 : AC := .cond (.t 26) c27_13 .skip
abbrev c27_15 : AC := .seq c27_11 c27_14
abbrev c27_16 : AC := .block 1 c27_15
abbrev c27_17 : AC := .reg [⟨(some 15), .mv (.t 5), none⟩,
  ⟨(some 16), .bin .add (.t 15) (.k (.I 1)), none⟩,
  ⟨(some 5), .mv (.t 16), none⟩] false
abbrev c27_18 : AC := .seq c27_16 c27_17
abbrev c27_19 : AC := .seq c27_10 c27_18
abbrev c27_20 : AC := .loop c27_19
abbrev c27_21 : AC := .block 0 c27_20
abbrev c27_22 : AC := .seq c27_7 c27_21
abbrev c27_23 : AC := .reg [⟨(some 4), .mv (.k (.B true)), none⟩] false
abbrev c27_24 : AC := .seq c27_23 .ret
abbrev c27_25 : AC := .seq c27_22 c27_24
abbrev c27_26 : AC := .seq c27_6 c27_25
abbrev c27_27 : AC := .seq c27_1 c27_26
abbrev c27 : AC := c27_27
theorem code27 : fnCode Try.prog 27 = some (c27, [4], 27) := by kernel_rfl
/- coinage/coinageref27.Valid -/
abbrev c24_1 : AC := .reg [⟨(some 4), .mv (.k (.B false)), none⟩] false
abbrev c24_2 : AC := .reg [⟨(some 5), .mv (.t 0), none⟩,
  ⟨(some 6), .mv (.t 1), none⟩,
  ⟨(some 7), .call 37 [(.t 5), (.t 6)], none⟩,
  ⟨(some 4), .mv (.t 7), none⟩] false
abbrev c24_3 : AC := .seq c24_2 .ret
abbrev c24_4 : AC := .seq c24_1 c24_3
abbrev c24 : AC := c24_4
theorem code24 : fnCode Try.prog 24 = some (c24, [4], 8) := by kernel_rfl
/- coinage/consecutive.Possible -/
abbrev c17_1 : AC := .reg [⟨(some 4), .mv (.k (.B false)), none⟩] false
abbrev c17_2 : AC := .reg [⟨(some 8), .mv (.t 0), none⟩,
  ⟨(some 9), .mv (.t 1), none⟩,
  ⟨(some 10), .call 13 [(.t 8), (.t 9)], none⟩,
  ⟨(some 7), .mv (.t 10), none⟩,
  ⟨(some 11), .ext (.t 7) 0, none⟩,
  ⟨(some 12), .ext (.t 7) 1, none⟩,
  ⟨(some 5), .mv (.t 11), none⟩,
  ⟨(some 6), .mv (.t 12), none⟩] false
abbrev c17_3 : AC := .reg [⟨(some 13), .mv (.t 6), none⟩,
  ⟨(some 14), .bin .eql (.t 13) (.k (.I 0)), none⟩,
  ⟨(some 4), .mv (.t 14), none⟩] false
abbrev c17_4 : AC := .seq c17_3 .ret
abbrev c17_5 : AC := .seq c17_2 c17_4
abbrev c17_6 : AC := .seq c17_1 c17_5
abbrev c17 : AC := c17_6
theorem code17 : fnCode Try.prog 17 = some (c17, [4], 15) := by kernel_rfl
/- coinage/consecutive.Valid -/
abbrev c23_1 : AC := .reg [⟨(some 4), .mv (.k (.B false)), none⟩] false
abbrev c23_2 : AC := .reg [⟨(some 9), .mv (.t 0), none⟩,
  ⟨(some 10), .bin .lss (.t 9) (.k (.I 0)), none⟩,
  ⟨(some 11), .mv (.t 10), none⟩,
  ⟨(some 12), .mv (.t 0), (some (11, false))⟩,
  ⟨(some 13), .bin .gtr (.t 12) (.k (.I 7)), (some (11, false))⟩,
  ⟨(some 14), .pick (.t 11) (.k (.B true)) (.t 13), none⟩,
  ⟨(some 15), .mv (.t 14), none⟩,
  ⟨(some 16), .mv (.t 1), (some (15, false))⟩,
  ⟨(some 17), .len (.t 16), (some (15, false))⟩,
  ⟨(some 18), .bin .gtr (.t 17) (.k (.I 16)), (some (15, false))⟩,
  ⟨(some 19), .pick (.t 15) (.k (.B true)) (.t 18), none⟩] false
abbrev c23_3 : AC := .reg [⟨(some 4), .mv (.k (.B false)), none⟩] false
abbrev c23_4 : AC := .seq c23_3 .ret
abbrev c23_5 : AC := .cond (.t 19) c23_4 .skip
abbrev c23_6 : AC := .seq c23_2 c23_5
abbrev c23_7 : AC := .reg [⟨(some 20), .mv (.t 1), none⟩,
  ⟨(some 21), .len (.t 20), none⟩,
  ⟨(some 22), .mv (.k (.I 0)), none⟩] false
abbrev c23_8 : AC := .reg [⟨(some 23), .bin .lss (.t 22) (.t 21), none⟩] false
abbrev c23_9 : AC := .cond (.t 23) .skip (.exit 0)
abbrev c23_10 : AC := .reg [⟨(some 24), .iad 1 (.t 20) (.t 22), none⟩,
  ⟨(some 25), .ld none (.t 24), none⟩,
  ⟨(some 6), .mv (.t 25), none⟩] false
abbrev c23_11 : AC := .reg [⟨(some 26), .mv (.t 6), none⟩,
  ⟨(some 27), .len (.t 26), none⟩,
  ⟨(some 28), .mv (.k (.I 0)), none⟩] false
abbrev c23_12 : AC := .reg [⟨(some 29), .bin .lss (.t 28) (.t 27), none⟩] false
abbrev c23_13 : AC := .cond (.t 29) .skip (.exit 2)
abbrev c23_14 : AC := .reg [⟨(some 30), .mv (.t 28), none⟩,
  ⟨(some 31), .iad 1 (.t 26) (.t 28), none⟩,
  ⟨(some 32), .ld none (.t 31), none⟩,
  ⟨(some 7), .mv (.t 30), none⟩,
  ⟨(some 8), .mv (.t 32), none⟩] false
abbrev c23_15 : AC := .reg [⟨(some 33), .mv (.t 8), none⟩,
  ⟨(some 34), .bin .lss (.t 33) (.k (.I 0)), none⟩,
  ⟨(some 35), .mv (.t 34), none⟩,
  ⟨(some 36), .mv (.t 8), (some (35, false))⟩,
  ⟨(some 37), .mv (.t 0), (some (35, false))⟩,
  ⟨(some 38), .bin .geq (.t 36) (.t 37), (some (35, false))⟩,
  ⟨(some 39), .pick (.t 35) (.k (.B true)) (.t 38), none⟩,
  ⟨(some 40), .mv (.t 39), none⟩,
  ⟨(some 41), .mv (.t 7), (some (40, false))⟩,
  ⟨(some 42), .bin .gtr (.t 41) (.k (.I 0)), (some (40, false))⟩,
  ⟨(some 43), .mv (.t 42), (some (40, false))⟩,
  ⟨(some 44), .mv (.t 8), (some (43, true))⟩,
  ⟨(some 45), .mv (.t 6), (some (43, true))⟩,
  ⟨(some 46), .mv (.t 7), (some (43, true))⟩,
  ⟨(some 47), .bin .sub (.t 46) (.k (.I 1)), (some (43, true))⟩,
  ⟨(some 48), .iad 1 (.t 45) (.t 47), (some (43, true))⟩,
  ⟨(some 49), .ld none (.t 48), (some (43, true))⟩,
  ⟨(some 50), .bin .leq (.t 44) (.t 49), (some (43, true))⟩,
  ⟨(some 51), .pick (.t 43) (.t 50) (.k (.B false)), (some (40, false))⟩,
  ⟨(some 52), .pick (.t 40) (.k (.B true)) (.t 51), none⟩] false
abbrev c23_16 : AC := .reg [⟨(some 4), .mv (.k (.B false)), none⟩] false
abbrev c23_17 : AC := .seq c23_16 .ret
abbrev c23_18 : AC := .cond (.t 52) c23_17 .skip
abbrev c23_19 : AC := .seq c23_15 c23_18
abbrev c23_20 : AC := .seq c23_14 c23_19
abbrev c23_21 : AC := .block 3 c23_20
abbrev c23_22 : AC := .reg [⟨(some 53), .bin .add (.t 28) (.k (.I 1)), none⟩,
  ⟨(some 28), .mv (.t 53), none⟩] false
abbrev c23_23 : AC := .seq c23_21 c23_22
abbrev c23_24 : AC := .seq c23_13 c23_23
abbrev c23_25 : AC := .seq c23_12 c23_24
abbrev c23_26 : AC := .loop c23_25
abbrev c23_27 : AC := .block 2 c23_26
abbrev c23_28 : AC := .seq c23_11 c23_27
abbrev c23_29 : AC := .seq c23_10 c23_28
abbrev c23_30 : AC := .block 1 c23_29
abbrev c23_31 : AC := .reg [⟨(some 54), .bin .add (.t 22) (.k (.I 1)), none⟩,
  ⟨(some 22), .mv (.t 54), none⟩] false
abbrev c23_32 : AC := .seq c23_30 c23_31
abbrev c23_33 : AC := .seq c23_9 c23_32
abbrev c23_34 : AC := .seq c23_8 c23_33
abbrev c23_35 : AC := .loop c23_34
abbrev c23_36 : AC := .block 0 c23_35
abbrev c23_37 : AC := .seq c23_7 c23_36
abbrev c23_38 : AC := .reg [⟨(some 4), .mv (.k (.B true)), none⟩] false
abbrev c23_39 : AC := .seq c23_38 .ret
abbrev c23_40 : AC := .seq c23_37 c23_39
abbrev c23_41 : AC := .seq c23_6 c23_40
abbrev c23_42 : AC := .seq c23_1 c23_41
abbrev c23 : AC := c23_42
theorem code23 : fnCode Try.prog 23 = some (c23, [4], 55) := by kernel_rfl
/- coinage/coinagebase.Ints -/
abbrev c16_1 : AC := .reg [⟨(some 4), .mv (.k (.B false)), none⟩] false
abbrev c16_2 : AC := .reg [⟨(some 6), .mv (.t 0), none⟩,
  ⟨(some 7), .len (.t 6), none⟩,
  ⟨(some 8), .mv (.t 1), none⟩,
  ⟨(some 9), .len (.t 8), none⟩,
  ⟨(some 10), .bin .neq (.t 7) (.t 9), none⟩] false
abbrev c16_3 : AC := .reg [⟨(some 4), .mv (.k (.B false)), none⟩] false
abbrev c16_4 : AC := .seq c16_3 .ret
abbrev c16_5 : AC := .cond (.t 10) c16_4 .skip
abbrev c16_6 : AC := .seq c16_2 c16_5
abbrev c16_7 : AC := .reg [⟨(some 5), .mv (.k (.I 0)), none⟩] false
abbrev c16_8 : AC := .reg [⟨(some 11), .mv (.t 5), none⟩,
  ⟨(some 12), .mv (.t 0), none⟩,
  ⟨(some 13), .len (.t 12), none⟩,
  ⟨(some 14), .bin .lss (.t 11) (.t 13), none⟩] false
abbrev c16_9 : AC := .cond (.t 14) .skip (.exit 0)
abbrev c16_10 : AC := .seq c16_8 c16_9
abbrev c16_11 : AC := .regD [(⟨(some 17), .mv (.t 0), none⟩, [0]),
  (⟨(some 18), .mv (.t 5), none⟩, [5]),
  (⟨(some 19), .iad 1 (.t 17) (.t 18), none⟩, [17, 18]),
  (⟨(some 20), .ld none (.t 19), none⟩, [19]),
  (⟨(some 21), .mv (.t 1), none⟩, [1]),
  (⟨(some 22), .mv (.t 5), none⟩, [5]),
  (⟨(some 23), .iad 1 (.t 21) (.t 22), none⟩, [21, 22]),
  (⟨(some 24), .ld none (.t 23), none⟩, [23]),
  (⟨(some 25), .bin .neq (.t 20) (.t 24), none⟩, [20, 24])]
abbrev c16_12 : AC := .reg [⟨(some 4), .mv (.k (.B false)), none⟩] false
abbrev c16_13 : AC := .seq c16_12 .ret
abbrev c16_14 : AC := .cond (.t 25) c16_13 .skip
abbrev c16_15 : AC := .seq c16_11 c16_14
abbrev c16_16 : AC := .block 1 c16_15
abbrev c16_17 : AC := .reg [⟨(some 15), .mv (.t 5), none⟩,
  ⟨(some 16), .bin .add (.t 15) (.k (.I 1)), none⟩,
  ⟨(some 5), .mv (.t 16), none⟩] false
abbrev c16_18 : AC := .seq c16_16 c16_17
abbrev c16_19 : AC := .seq c16_10 c16_18
abbrev c16_20 : AC := .loop c16_19
abbrev c16_21 : AC := .block 0 c16_20
abbrev c16_22 : AC := .seq c16_7 c16_21
abbrev c16_23 : AC := .reg [⟨(some 4), .mv (.k (.B true)), none⟩] false
abbrev c16_24 : AC := .seq c16_23 .ret
abbrev c16_25 : AC := .seq c16_22 c16_24
abbrev c16_26 : AC := .seq c16_6 c16_25
abbrev c16_27 : AC := .seq c16_1 c16_26
abbrev c16 : AC := c16_27
theorem code16 : fnCode Try.prog 16 = some (c16, [4], 26) := by kernel_rfl
/- coinage/consecutive.First -/
abbrev c13_1 : AC := .reg [⟨(some 4), .mv (.k (.c .nil)), none⟩,
  ⟨(some 5), .mv (.k (.I 0)), none⟩] false
abbrev c13_2 : AC := .reg [⟨(some 8), .mv (.t 0), none⟩,
  ⟨(some 9), .mv (.t 1), none⟩,
  ⟨(some 10), .call 23 [(.t 8), (.t 9)], none⟩,
  ⟨(some 11), .not (.t 10), none⟩] false
abbrev c13_3 : AC := .reg [⟨(some 4), .mv (.k (.c .nil)), none⟩,
  ⟨(some 5), .mv (.k (.I 1)), none⟩] false
abbrev c13_4 : AC := .seq c13_3 .ret
abbrev c13_5 : AC := .cond (.t 11) c13_4 .skip
abbrev c13_6 : AC := .seq c13_2 c13_5
abbrev c13_7 : AC := .reg [⟨(some 6), .alloc 28 [(.c .nil)], none⟩] false
abbrev c13_8 : AC := .reg [⟨(some 7), .alloc 4 [(.B false)], none⟩,
  ⟨none, .st none (.t 7) (.k (.B false)), none⟩] false
abbrev c13_9 : AC := .reg [⟨(some 12), .mv (.t 0), none⟩,
  ⟨(some 13), .mv (.t 1), none⟩,
  ⟨(some 14), .mkfn 31 [(.t 6), (.t 7)], none⟩,
  ⟨(some 15), .call 29 [(.t 12), (.t 13), (.t 14)], none⟩] false
abbrev c13_10 : AC := .reg [⟨(some 16), .ld none (.t 7), none⟩,
  ⟨(some 17), .not (.t 16), none⟩] false
abbrev c13_11 : AC := .reg [⟨(some 4), .mv (.k (.c .nil)), none⟩,
  ⟨(some 5), .mv (.k (.I 7)), none⟩] false
abbrev c13_12 : AC := .seq c13_11 .ret
abbrev c13_13 : AC := .cond (.t 17) c13_12 .skip
abbrev c13_14 : AC := .seq c13_10 c13_13
abbrev c13_15 : AC := .reg [⟨(some 18), .ld none (.t 6), none⟩,
  ⟨(some 4), .mv (.t 18), none⟩,
  ⟨(some 5), .mv (.k (.I 0)), none⟩] false
abbrev c13_16 : AC := .seq c13_15 .ret
abbrev c13_17 : AC := .seq c13_14 c13_16
abbrev c13_18 : AC := .seq c13_9 c13_17
abbrev c13_19 : AC := .seq c13_8 c13_18
abbrev c13_20 : AC := .seq c13_7 c13_19
abbrev c13_21 : AC := .seq c13_6 c13_20
abbrev c13_22 : AC := .seq c13_1 c13_21
abbrev c13 : AC := c13_22
theorem code13 : fnCode Try.prog 13 = some (c13, [4, 5], 19) := by kernel_rfl
/- coinage/coinageref27.Possible -/
abbrev c18_1 : AC := .reg [⟨(some 4), .mv (.k (.B false)), none⟩] false
abbrev c18_2 : AC := .reg [⟨(some 5), .mv (.t 0), none⟩,
  ⟨(some 6), .mv (.t 1), none⟩,
  ⟨(some 7), .call 24 [(.t 5), (.t 6)], none⟩,
  ⟨(some 8), .mv (.t 7), none⟩,
  ⟨(some 9), .mv (.t 0), (some (8, true))⟩,
  ⟨(some 10), .mv (.t 1), (some (8, true))⟩,
  ⟨(some 11), .call 32 [(.t 9), (.t 10)], (some (8, true))⟩,
  ⟨(some 12), .len (.t 11), (some (8, true))⟩,
  ⟨(some 13), .bin .gtr (.t 12) (.k (.I 0)), (some (8, true))⟩,
  ⟨(some 14), .pick (.t 8) (.t 13) (.k (.B false)), none⟩,
  ⟨(some 4), .mv (.t 14), none⟩] false
abbrev c18_3 : AC := .seq c18_2 .ret
abbrev c18_4 : AC := .seq c18_1 c18_3
abbrev c18 : AC := c18_4
theorem code18 : fnCode Try.prog 18 = some (c18, [4], 15) := by kernel_rfl
/- coinage/coinageref27.Runs -/
abbrev c21_1 : AC := .reg [⟨(some 6), .mv (.k (.c .nil)), none⟩,
  ⟨(some 7), .mv (.k (.I 0)), none⟩] false
abbrev c21_2 : AC := .reg [⟨(some 10), .mv (.t 0), none⟩,
  ⟨(some 11), .mv (.t 1), none⟩,
  ⟨(some 12), .call 24 [(.t 10), (.t 11)], none⟩,
  ⟨(some 13), .not (.t 12), none⟩] false
abbrev c21_3 : AC := .reg [⟨(some 6), .mv (.k (.c .nil)), none⟩,
  ⟨(some 7), .mv (.k (.I 1)), none⟩] false
abbrev c21_4 : AC := .seq c21_3 .ret
abbrev c21_5 : AC := .cond (.t 13) c21_4 .skip
abbrev c21_6 : AC := .seq c21_2 c21_5
abbrev c21_7 : AC := .reg [⟨(some 14), .mv (.t 2), none⟩,
  ⟨(some 15), .mv (.t 0), none⟩,
  ⟨(some 16), .call 35 [(.t 14), (.t 15)], none⟩,
  ⟨(some 17), .not (.t 16), none⟩] false
abbrev c21_8 : AC := .reg [⟨(some 6), .mv (.k (.c .nil)), none⟩,
  ⟨(some 7), .mv (.k (.I 2)), none⟩] false
abbrev c21_9 : AC := .seq c21_8 .ret
abbrev c21_10 : AC := .cond (.t 17) c21_9 .skip
abbrev c21_11 : AC := .seq c21_7 c21_10
abbrev c21_12 : AC := .reg [⟨(some 8), .mv (.k (.c .nil)), none⟩] false
abbrev c21_13 : AC := .reg [⟨(some 9), .mv (.k (.I 0)), none⟩] false
abbrev c21_14 : AC := .reg [⟨(some 18), .mv (.t 9), none⟩,
  ⟨(some 19), .mv (.t 1), none⟩,
  ⟨(some 20), .len (.t 19), none⟩,
  ⟨(some 21), .bin .lss (.t 18) (.t 20), none⟩] false
abbrev c21_15 : AC := .cond (.t 21) .skip (.exit 0)
abbrev c21_16 : AC := .seq c21_14 c21_15
abbrev c21_17 : AC := .reg [⟨(some 24), .mv (.t 8), none⟩,
  ⟨(some 25), .mv (.t 1), none⟩,
  ⟨(some 26), .mv (.t 9), none⟩,
  ⟨(some 27), .iad 1 (.t 25) (.t 26), none⟩,
  ⟨(some 28), .ld none (.t 27), none⟩,
  ⟨(some 29), .mv (.t 2), none⟩,
  ⟨(some 30), .call 36 [(.t 28), (.t 29)], none⟩,
  ⟨(some 31), .bslice 3 1 [(.t 30)], none⟩,
  ⟨(some 32), .app 3 1 8 (.t 24) (.t 31), none⟩,
  ⟨(some 8), .mv (.t 32), none⟩] false
abbrev c21_18 : AC := .block 1 c21_17
abbrev c21_19 : AC := .reg [⟨(some 22), .mv (.t 9), none⟩,
  ⟨(some 23), .bin .add (.t 22) (.k (.I 1)), none⟩,
  ⟨(some 9), .mv (.t 23), none⟩] false
abbrev c21_20 : AC := .seq c21_18 c21_19
abbrev c21_21 : AC := .seq c21_16 c21_20
abbrev c21_22 : AC := .loop c21_21
abbrev c21_23 : AC := .block 0 c21_22
abbrev c21_24 : AC := .seq c21_13 c21_23
abbrev c21_25 : AC := .reg [⟨(some 33), .mv (.t 8), none⟩,
  ⟨(some 6), .mv (.t 33), none⟩,
  ⟨(some 7), .mv (.k (.I 0)), none⟩] false
abbrev c21_26 : AC := .seq c21_25 .ret
abbrev c21_27 : AC := .seq c21_24 c21_26
abbrev c21_28 : AC := .seq c21_12 c21_27
abbrev c21_29 : AC := .seq c21_11 c21_28
abbrev c21_30 : AC := .seq c21_6 c21_29
abbrev c21_31 : AC := .seq c21_1 c21_30
abbrev c21 : AC := c21_31
theorem code21 : fnCode Try.prog 21 = some (c21, [6, 7], 34) := by kernel_rfl
/- coinage/coinageref27.Gaps -/
abbrev c22_1 : AC := .reg [⟨(some 6), .mv (.k (.I 0)), none⟩,
  ⟨(some 7), .mv (.k (.I 0)), none⟩] false
abbrev c22_2 : AC := .reg [⟨(some 13), .mv (.t 0), none⟩,
  ⟨(some 14), .mv (.t 1), none⟩,
  ⟨(some 15), .mv (.t 2), none⟩,
  ⟨(some 16), .call 21 [(.t 13), (.t 14), (.t 15)], none⟩,
  ⟨(some 12), .mv (.t 16), none⟩,
  ⟨(some 17), .ext (.t 12) 0, none⟩,
  ⟨(some 18), .ext (.t 12) 1, none⟩,
  ⟨(some 8), .mv (.t 17), none⟩,
  ⟨(some 9), .mv (.t 18), none⟩] false
abbrev c22_3 : AC := .reg [⟨(some 19), .mv (.t 9), none⟩,
  ⟨(some 20), .bin .neq (.t 19) (.k (.I 0)), none⟩] false
abbrev c22_4 : AC := .reg [⟨(some 21), .mv (.t 9), none⟩,
  ⟨(some 6), .mv (.k (.I 0)), none⟩,
  ⟨(some 7), .mv (.t 21), none⟩] false
abbrev c22_5 : AC := .seq c22_4 .ret
abbrev c22_6 : AC := .cond (.t 20) c22_5 .skip
abbrev c22_7 : AC := .seq c22_3 c22_6
abbrev c22_8 : AC := .reg [⟨(some 10), .mv (.k (.I 0)), none⟩] false
abbrev c22_9 : AC := .reg [⟨(some 11), .mv (.k (.I 0)), none⟩] false
abbrev c22_10 : AC := .reg [⟨(some 22), .mv (.t 11), none⟩,
  ⟨(some 23), .mv (.t 8), none⟩,
  ⟨(some 24), .len (.t 23), none⟩,
  ⟨(some 25), .bin .lss (.t 22) (.t 24), none⟩] false
abbrev c22_11 : AC := .cond (.t 25) .skip (.exit 0)
abbrev c22_12 : AC := .seq c22_10 c22_11
abbrev c22_13 : AC := .reg [⟨(some 28), .mv (.t 10), none⟩,
  ⟨(some 29), .mv (.t 8), none⟩,
  ⟨(some 30), .mv (.t 11), none⟩,
  ⟨(some 31), .iad 1 (.t 29) (.t 30), none⟩,
  ⟨(some 32), .ld none (.t 31), none⟩,
  ⟨(some 33), .bin .sub (.t 32) (.k (.I 1)), none⟩,
  ⟨(some 34), .minmax true (.t 33) (.k (.I 0)), none⟩,
  ⟨(some 35), .bin .add (.t 28) (.t 34), none⟩,
  ⟨(some 10), .mv (.t 35), none⟩] false
abbrev c22_14 : AC := .block 1 c22_13
abbrev c22_15 : AC := .reg [⟨(some 26), .mv (.t 11), none⟩,
  ⟨(some 27), .bin .add (.t 26) (.k (.I 1)), none⟩,
  ⟨(some 11), .mv (.t 27), none⟩] false
abbrev c22_16 : AC := .seq c22_14 c22_15
abbrev c22_17 : AC := .seq c22_12 c22_16
abbrev c22_18 : AC := .loop c22_17
abbrev c22_19 : AC := .block 0 c22_18
abbrev c22_20 : AC := .seq c22_9 c22_19
abbrev c22_21 : AC := .reg [⟨(some 36), .mv (.t 10), none⟩,
  ⟨(some 6), .mv (.t 36), none⟩,
  ⟨(some 7), .mv (.k (.I 0)), none⟩] false
abbrev c22_22 : AC := .seq c22_21 .ret
abbrev c22_23 : AC := .seq c22_20 c22_22
abbrev c22_24 : AC := .seq c22_8 c22_23
abbrev c22_25 : AC := .seq c22_7 c22_24
abbrev c22_26 : AC := .seq c22_2 c22_25
abbrev c22_27 : AC := .seq c22_1 c22_26
abbrev c22 : AC := c22_27
theorem code22 : fnCode Try.prog 22 = some (c22, [6, 7], 37) := by kernel_rfl
/- coinage/coinageref27.Is -/
abbrev c26_1 : AC := .reg [⟨(some 6), .mv (.k (.B false)), none⟩] false
abbrev c26_2 : AC := .reg [⟨(some 10), .mv (.t 0), none⟩,
  ⟨(some 11), .mv (.t 1), none⟩,
  ⟨(some 12), .mv (.t 2), none⟩,
  ⟨(some 13), .call 22 [(.t 10), (.t 11), (.t 12)], none⟩,
  ⟨(some 9), .mv (.t 13), none⟩,
  ⟨(some 14), .ext (.t 9) 0, none⟩,
  ⟨(some 15), .ext (.t 9) 1, none⟩,
  ⟨(some 7), .mv (.t 14), none⟩,
  ⟨(some 8), .mv (.t 15), none⟩] false
abbrev c26_3 : AC := .reg [⟨(some 16), .mv (.t 8), none⟩,
  ⟨(some 17), .bin .eql (.t 16) (.k (.I 0)), none⟩,
  ⟨(some 18), .mv (.t 17), none⟩,
  ⟨(some 19), .mv (.t 7), (some (18, true))⟩,
  ⟨(some 20), .bin .eql (.t 19) (.k (.I 0)), (some (18, true))⟩,
  ⟨(some 21), .pick (.t 18) (.t 20) (.k (.B false)), none⟩,
  ⟨(some 6), .mv (.t 21), none⟩] false
abbrev c26_4 : AC := .seq c26_3 .ret
abbrev c26_5 : AC := .seq c26_2 c26_4
abbrev c26_6 : AC := .seq c26_1 c26_5
abbrev c26 : AC := c26_6
theorem code26 : fnCode Try.prog 26 = some (c26, [6], 22) := by kernel_rfl
/- coinage/coinagebase.Has -/
abbrev c28_1 : AC := .reg [⟨(some 4), .mv (.k (.B false)), none⟩] false
abbrev c28_2 : AC := .reg [⟨(some 5), .mv (.k (.I 0)), none⟩] false
abbrev c28_3 : AC := .reg [⟨(some 6), .mv (.t 5), none⟩,
  ⟨(some 7), .mv (.t 0), none⟩,
  ⟨(some 8), .len (.t 7), none⟩,
  ⟨(some 9), .bin .lss (.t 6) (.t 8), none⟩] false
abbrev c28_4 : AC := .cond (.t 9) .skip (.exit 0)
abbrev c28_5 : AC := .seq c28_3 c28_4
abbrev c28_6 : AC := .reg [⟨(some 12), .mv (.t 0), none⟩,
  ⟨(some 13), .mv (.t 5), none⟩,
  ⟨(some 14), .iad 1 (.t 12) (.t 13), none⟩,
  ⟨(some 15), .ld none (.t 14), none⟩,
  ⟨(some 16), .mv (.t 1), none⟩,
  ⟨(some 17), .bin .eql (.t 15) (.t 16), none⟩] false
abbrev c28_7 : AC := .reg [⟨(some 4), .mv (.k (.B true)), none⟩] false
abbrev c28_8 : AC := .seq c28_7 .ret
abbrev c28_9 : AC := .cond (.t 17) c28_8 .skip
abbrev c28_10 : AC := .seq c28_6 c28_9
abbrev c28_11 : AC := .block 1 c28_10
abbrev c28_12 : AC := .reg [⟨(some 10), .mv (.t 5), none⟩,
  ⟨(some 11), .bin .add (.t 10) (.k (.I 1)), none⟩,
  ⟨(some 5), .mv (.t 11), none⟩] false
abbrev c28_13 : AC := .seq c28_11 c28_12
abbrev c28_14 : AC := .seq c28_5 c28_13
abbrev c28_15 : AC := .loop c28_14
abbrev c28_16 : AC := .block 0 c28_15
abbrev c28_17 : AC := .seq c28_2 c28_16
abbrev c28_18 : AC := .reg [⟨(some 4), .mv (.k (.B false)), none⟩] false
abbrev c28_19 : AC := .seq c28_18 .ret
abbrev c28_20 : AC := .seq c28_17 c28_19
abbrev c28_21 : AC := .seq c28_1 c28_20
abbrev c28 : AC := c28_21
theorem code28 : fnCode Try.prog 28 = some (c28, [4], 18) := by kernel_rfl
/- coinage/coinagebase.Table -/
abbrev c37_1 : AC := .reg [⟨(some 4), .mv (.k (.B false)), none⟩] false
abbrev c37_2 : AC := .reg [⟨(some 6), .mv (.t 0), none⟩,
  ⟨(some 7), .bin .lss (.t 6) (.k (.I 0)), none⟩,
  ⟨(some 8), .mv (.t 7), none⟩,
  ⟨(some 9), .mv (.t 0), (some (8, false))⟩,
  ⟨(some 10), .bin .gtr (.t 9) (.k (.I 7)), (some (8, false))⟩,
  ⟨(some 11), .pick (.t 8) (.k (.B true)) (.t 10), none⟩,
  ⟨(some 12), .mv (.t 11), none⟩,
  ⟨(some 13), .mv (.t 1), (some (12, false))⟩,
  ⟨(some 14), .len (.t 13), (some (12, false))⟩,
  ⟨(some 15), .bin .gtr (.t 14) (.k (.I 16)), (some (12, false))⟩,
  ⟨(some 16), .pick (.t 12) (.k (.B true)) (.t 15), none⟩] false
abbrev c37_3 : AC := .reg [⟨(some 4), .mv (.k (.B false)), none⟩] false
abbrev c37_4 : AC := .seq c37_3 .ret
abbrev c37_5 : AC := .cond (.t 16) c37_4 .skip
abbrev c37_6 : AC := .seq c37_2 c37_5
abbrev c37_7 : AC := .reg [⟨(some 5), .mv (.k (.I 0)), none⟩] false
abbrev c37_8 : AC := .reg [⟨(some 17), .mv (.t 5), none⟩,
  ⟨(some 18), .mv (.t 1), none⟩,
  ⟨(some 19), .len (.t 18), none⟩,
  ⟨(some 20), .bin .lss (.t 17) (.t 19), none⟩] false
abbrev c37_9 : AC := .cond (.t 20) .skip (.exit 0)
abbrev c37_10 : AC := .seq c37_8 c37_9
abbrev c37_11 : AC := .reg [⟨(some 23), .mv (.t 1), none⟩,
  ⟨(some 24), .mv (.t 5), none⟩,
  ⟨(some 25), .iad 1 (.t 23) (.t 24), none⟩,
  ⟨(some 26), .ld none (.t 25), none⟩,
  ⟨(some 27), .mv (.t 0), none⟩,
  ⟨(some 28), .bin .sub (.t 27) (.k (.I 1)), none⟩,
  ⟨(some 29), .call 42 [(.t 26), (.k (.I 0)), (.t 28)], none⟩,
  ⟨(some 30), .not (.t 29), none⟩] false
abbrev c37_12 : AC := .reg [⟨(some 4), .mv (.k (.B false)), none⟩] false
abbrev c37_13 : AC := .seq c37_12 .ret
abbrev c37_14 : AC := .cond (.t 30) c37_13 .skip
abbrev c37_15 : AC := .seq c37_11 c37_14
abbrev c37_16 : AC := .block 1 c37_15
abbrev c37_17 : AC := .reg [⟨(some 21), .mv (.t 5), none⟩,
  ⟨(some 22), .bin .add (.t 21) (.k (.I 1)), none⟩,
  ⟨(some 5), .mv (.t 22), none⟩] false
abbrev c37_18 : AC := .seq c37_16 c37_17
abbrev c37_19 : AC := .seq c37_10 c37_18
abbrev c37_20 : AC := .loop c37_19
abbrev c37_21 : AC := .block 0 c37_20
abbrev c37_22 : AC := .seq c37_7 c37_21
abbrev c37_23 : AC := .reg [⟨(some 4), .mv (.k (.B true)), none⟩] false
abbrev c37_24 : AC := .seq c37_23 .ret
abbrev c37_25 : AC := .seq c37_22 c37_24
abbrev c37_26 : AC := .seq c37_6 c37_25
abbrev c37_27 : AC := .seq c37_1 c37_26
abbrev c37 : AC := c37_27
theorem code37 : fnCode Try.prog 37 = some (c37, [4], 31) := by kernel_rfl
/- coinage/coinagebase.Ascending -/
abbrev c42_1 : AC := .reg [⟨(some 6), .mv (.k (.B false)), none⟩] false
abbrev c42_2 : AC := .reg [⟨(some 7), .mv (.k (.I 0)), none⟩] false
abbrev c42_3 : AC := .reg [⟨(some 8), .mv (.t 7), none⟩,
  ⟨(some 9), .mv (.t 0), none⟩,
  ⟨(some 10), .len (.t 9), none⟩,
  ⟨(some 11), .bin .lss (.t 8) (.t 10), none⟩] false
abbrev c42_4 : AC := .cond (.t 11) .skip (.exit 0)
abbrev c42_5 : AC := .seq c42_3 c42_4
abbrev c42_6 : AC := .regD [(⟨(some 14), .mv (.t 0), none⟩, [0]),
  (⟨(some 15), .mv (.t 7), none⟩, [7]),
  (⟨(some 16), .iad 1 (.t 14) (.t 15), none⟩, [14, 15]),
  (⟨(some 17), .ld none (.t 16), none⟩, [16]),
  (⟨(some 18), .mv (.t 1), none⟩, [1]),
  (⟨(some 19), .bin .lss (.t 17) (.t 18), none⟩, [17, 18]),
  (⟨(some 20), .mv (.t 19), none⟩, [19]),
  (⟨(some 21), .mv (.t 0), (some (20, false))⟩, [0, 20]),
  (⟨(some 22), .mv (.t 7), (some (20, false))⟩, [7, 20]),
  (⟨(some 23), .iad 1 (.t 21) (.t 22), (some (20, false))⟩, [21, 22, 20]),
  (⟨(some 24), .ld none (.t 23), (some (20, false))⟩, [23, 20]),
  (⟨(some 25), .mv (.t 2), (some (20, false))⟩, [2, 20]),
  (⟨(some 26), .bin .gtr (.t 24) (.t 25), (some (20, false))⟩, [24, 25, 20]),
  (⟨(some 27), .pick (.t 20) (.k (.B true)) (.t 26), none⟩, [20, 26]),
  (⟨(some 28), .mv (.t 27), none⟩, [27]),
  (⟨(some 29), .mv (.t 7), (some (28, false))⟩, [7, 28]),
  (⟨(some 30), .bin .gtr (.t 29) (.k (.I 0)), (some (28, false))⟩, [29, 28]),
  (⟨(some 31), .mv (.t 30), (some (28, false))⟩, [30, 28]),
  (⟨(some 32), .mv (.t 0), (some (31, true))⟩, [0, 31]),
  (⟨(some 33), .mv (.t 7), (some (31, true))⟩, [7, 31]),
  (⟨(some 34), .iad 1 (.t 32) (.t 33), (some (31, true))⟩, [32, 33, 31]),
  (⟨(some 35), .ld none (.t 34), (some (31, true))⟩, [34, 31]),
  (⟨(some 36), .mv (.t 0), (some (31, true))⟩, [0, 31]),
  (⟨(some 37), .mv (.t 7), (some (31, true))⟩, [7, 31]),
  (⟨(some 38), .bin .sub (.t 37) (.k (.I 1)), (some (31, true))⟩, [37, 31]),
  (⟨(some 39), .iad 1 (.t 36) (.t 38), (some (31, true))⟩, [36, 38, 31]),
  (⟨(some 40), .ld none (.t 39), (some (31, true))⟩, [39, 31]),
  (⟨(some 41), .bin .leq (.t 35) (.t 40), (some (31, true))⟩, [35, 40, 31]),
  (⟨(some 42), .pick (.t 31) (.t 41) (.k (.B false)), (some (28, false))⟩, [31, 41, 28]),
  (⟨(some 43), .pick (.t 28) (.k (.B true)) (.t 42), none⟩, [28, 42])]
abbrev c42_7 : AC := .reg [⟨(some 6), .mv (.k (.B false)), none⟩] false
abbrev c42_8 : AC := .seq c42_7 .ret
abbrev c42_9 : AC := .cond (.t 43) c42_8 .skip
abbrev c42_10 : AC := .seq c42_6 c42_9
abbrev c42_11 : AC := .block 1 c42_10
abbrev c42_12 : AC := .reg [⟨(some 12), .mv (.t 7), none⟩,
  ⟨(some 13), .bin .add (.t 12) (.k (.I 1)), none⟩,
  ⟨(some 7), .mv (.t 13), none⟩] false
abbrev c42_13 : AC := .seq c42_11 c42_12
abbrev c42_14 : AC := .seq c42_5 c42_13
abbrev c42_15 : AC := .loop c42_14
abbrev c42_16 : AC := .block 0 c42_15
abbrev c42_17 : AC := .seq c42_2 c42_16
abbrev c42_18 : AC := .reg [⟨(some 6), .mv (.k (.B true)), none⟩] false
abbrev c42_19 : AC := .seq c42_18 .ret
abbrev c42_20 : AC := .seq c42_17 c42_19
abbrev c42_21 : AC := .seq c42_1 c42_20
abbrev c42 : AC := c42_21
theorem code42 : fnCode Try.prog 42 = some (c42, [6], 44) := by kernel_rfl
/- slices.Index[[]int,int] -/
abbrev c46_1 : AC := .reg [⟨(some 4), .mv (.k (.I 0)), none⟩] false
abbrev c46_2 : AC := .reg [⟨(some 6), .mv (.t 0), none⟩,
  ⟨(some 7), .len (.t 6), none⟩,
  ⟨(some 8), .mv (.k (.I 0)), none⟩] false
abbrev c46_3 : AC := .reg [⟨(some 9), .bin .lss (.t 8) (.t 7), none⟩] false
abbrev c46_4 : AC := .cond (.t 9) .skip (.exit 0)
abbrev c46_5 : AC := .reg [⟨(some 10), .mv (.t 8), none⟩,
  ⟨(some 5), .mv (.t 10), none⟩] false
abbrev c46_6 : AC := .reg [⟨(some 11), .mv (.t 1), none⟩,
  ⟨(some 12), .mv (.t 0), none⟩,
  ⟨(some 13), .mv (.t 5), none⟩,
  ⟨(some 14), .iad 1 (.t 12) (.t 13), none⟩,
  ⟨(some 15), .ld none (.t 14), none⟩,
  ⟨(some 16), .bin .eql (.t 11) (.t 15), none⟩] false
abbrev c46_7 : AC := .reg [⟨(some 17), .mv (.t 5), none⟩,
  ⟨(some 4), .mv (.t 17), none⟩] false
abbrev c46_8 : AC := .seq c46_7 .ret
abbrev c46_9 : AC := .cond (.t 16) c46_8 .skip
abbrev c46_10 : AC := .seq c46_6 c46_9
abbrev c46_11 : AC := .seq c46_5 c46_10
abbrev c46_12 : AC := .block 1 c46_11
abbrev c46_13 : AC := .reg [⟨(some 18), .bin .add (.t 8) (.k (.I 1)), none⟩,
  ⟨(some 8), .mv (.t 18), none⟩] false
abbrev c46_14 : AC := .seq c46_12 c46_13
abbrev c46_15 : AC := .seq c46_4 c46_14
abbrev c46_16 : AC := .seq c46_3 c46_15
abbrev c46_17 : AC := .loop c46_16
abbrev c46_18 : AC := .block 0 c46_17
abbrev c46_19 : AC := .seq c46_2 c46_18
abbrev c46_20 : AC := .reg [⟨(some 4), .mv (.k (.I (-1))), none⟩] false
abbrev c46_21 : AC := .seq c46_20 .ret
abbrev c46_22 : AC := .seq c46_19 c46_21
abbrev c46_23 : AC := .seq c46_1 c46_22
abbrev c46 : AC := c46_23
theorem code46 : fnCode Try.prog 46 = some (c46, [4], 19) := by kernel_rfl
/- slices.Clone[[]int,int] -/
abbrev c43_1 : AC := .reg [⟨(some 2), .mv (.k (.c .nil)), none⟩] false
abbrev c43_2 : AC := .reg [⟨(some 3), .mv (.t 0), none⟩,
  ⟨(some 4), .isnil false (.t 3), none⟩] false
abbrev c43_3 : AC := .reg [⟨(some 2), .mv (.k (.c .nil)), none⟩] false
abbrev c43_4 : AC := .seq c43_3 .ret
abbrev c43_5 : AC := .cond (.t 4) c43_4 .skip
abbrev c43_6 : AC := .seq c43_2 c43_5
abbrev c43_7 : AC := .reg [⟨(some 5), .bslice 3 1 [], none⟩,
  ⟨(some 6), .mv (.t 0), none⟩,
  ⟨(some 7), .app 3 1 8 (.t 5) (.t 6), none⟩,
  ⟨(some 2), .mv (.t 7), none⟩] false
abbrev c43_8 : AC := .seq c43_7 .ret
abbrev c43_9 : AC := .seq c43_6 c43_8
abbrev c43_10 : AC := .seq c43_1 c43_9
abbrev c43 : AC := c43_10
theorem code43 : fnCode Try.prog 43 = some (c43, [2], 8) := by kernel_rfl
/- coinage/consecutive.visitAll -/
abbrev c29_1 : AC := .reg [⟨(some 6), .mv (.k (.c .nil)), none⟩] false
abbrev c29_2 : AC := .reg [⟨(some 9), .mv (.t 1), none⟩,
  ⟨(some 10), .len (.t 9), none⟩,
  ⟨(some 11), .mv (.k (.I 0)), none⟩] false
abbrev c29_3 : AC := .reg [⟨(some 12), .bin .lss (.t 11) (.t 10), none⟩] false
abbrev c29_4 : AC := .cond (.t 12) .skip (.exit 0)
abbrev c29_5 : AC := .reg [⟨(some 13), .iad 1 (.t 9) (.t 11), none⟩,
  ⟨(some 14), .ld none (.t 13), none⟩,
  ⟨(some 8), .mv (.t 14), none⟩] false
abbrev c29_6 : AC := .reg [⟨(some 15), .mv (.t 6), none⟩,
  ⟨(some 16), .mv (.t 8), none⟩,
  ⟨(some 17), .len (.t 16), none⟩,
  ⟨(some 18), .bslice 3 1 [(.t 17)], none⟩,
  ⟨(some 19), .app 3 1 8 (.t 15) (.t 18), none⟩,
  ⟨(some 6), .mv (.t 19), none⟩] false
abbrev c29_7 : AC := .seq c29_5 c29_6
abbrev c29_8 : AC := .block 1 c29_7
abbrev c29_9 : AC := .reg [⟨(some 20), .bin .add (.t 11) (.k (.I 1)), none⟩,
  ⟨(some 11), .mv (.t 20), none⟩] false
abbrev c29_10 : AC := .seq c29_8 c29_9
abbrev c29_11 : AC := .seq c29_4 c29_10
abbrev c29_12 : AC := .seq c29_3 c29_11
abbrev c29_13 : AC := .loop c29_12
abbrev c29_14 : AC := .block 0 c29_13
abbrev c29_15 : AC := .seq c29_2 c29_14
abbrev c29_16 : AC := .reg [⟨(some 21), .mv (.t 0), none⟩,
  ⟨(some 22), .mv (.t 1), none⟩,
  ⟨(some 23), .mv (.t 6), none⟩,
  ⟨(some 24), .mv (.t 2), none⟩,
  ⟨(some 25), .call 38 [(.t 21), (.t 22), (.k (.c .nil)), (.t 23), (.t 24)], none⟩] false
abbrev c29_17 : AC := .seq c29_15 c29_16
abbrev c29_18 : AC := .seq c29_1 c29_17
abbrev c29 : AC := c29_18
theorem code29 : fnCode Try.prog 29 = some (c29, [], 26) := by kernel_rfl
/- coinage/consecutive.First$1 -/
abbrev c31_1 : AC := .reg [⟨(some 4), .mv (.k (.B false)), none⟩] false
abbrev c31_2 : AC := .reg [⟨(some 5), .mv (.t 0), none⟩,
  ⟨none, .st none (.t 1) (.t 5), none⟩,
  ⟨none, .st none (.t 2) (.k (.B true)), none⟩] false
abbrev c31_3 : AC := .reg [⟨(some 4), .mv (.k (.B false)), none⟩] false
abbrev c31_4 : AC := .seq c31_3 .ret
abbrev c31_5 : AC := .seq c31_2 c31_4
abbrev c31_6 : AC := .seq c31_1 c31_5
abbrev c31 : AC := c31_6
theorem code31 : fnCode Try.prog 31 = some (c31, [4], 6) := by kernel_rfl
/- coinage/coinageref27.All -/
abbrev c32_1 : AC := .reg [⟨(some 4), .mv (.k (.c .nil)), none⟩] false
abbrev c32_2 : AC := .reg [⟨(some 5), .mv (.k (.c .nil)), none⟩] false
abbrev c32_3 : AC := .reg [⟨(some 8), .mv (.t 0), none⟩,
  ⟨(some 9), .call 39 [(.t 8)], none⟩,
  ⟨(some 6), .mv (.t 9), none⟩] false
abbrev c32_4 : AC := .reg [⟨(some 7), .mv (.k (.I 0)), none⟩] false
abbrev c32_5 : AC := .reg [⟨(some 10), .mv (.t 7), none⟩,
  ⟨(some 11), .mv (.t 6), none⟩,
  ⟨(some 12), .len (.t 11), none⟩,
  ⟨(some 13), .bin .lss (.t 10) (.t 12), none⟩] false
abbrev c32_6 : AC := .cond (.t 13) .skip (.exit 0)
abbrev c32_7 : AC := .seq c32_5 c32_6
abbrev c32_8 : AC := .reg [⟨(some 16), .mv (.t 0), none⟩,
  ⟨(some 17), .mv (.t 1), none⟩,
  ⟨(some 18), .mv (.t 6), none⟩,
  ⟨(some 19), .mv (.t 7), none⟩,
  ⟨(some 20), .iad 1 (.t 18) (.t 19), none⟩,
  ⟨(some 21), .ld none (.t 20), none⟩,
  ⟨(some 22), .call 26 [(.t 16), (.t 17), (.t 21)], none⟩] false
abbrev c32_9 : AC := .reg [⟨(some 23), .mv (.t 5), none⟩,
  ⟨(some 24), .mv (.t 6), none⟩,
  ⟨(some 25), .mv (.t 7), none⟩,
  ⟨(some 26), .iad 1 (.t 24) (.t 25), none⟩,
  ⟨(some 27), .ld none (.t 26), none⟩,
  ⟨(some 28), .bslice 28 1 [(.t 27)], none⟩,
  ⟨(some 29), .app 28 1 24 (.t 23) (.t 28), none⟩,
  ⟨(some 5), .mv (.t 29), none⟩] false
abbrev c32_10 : AC := .cond (.t 22) c32_9 .skip
abbrev c32_11 : AC := .seq c32_8 c32_10
abbrev c32_12 : AC := .block 1 c32_11
abbrev c32_13 : AC := .reg [⟨(some 14), .mv (.t 7), none⟩,
  ⟨(some 15), .bin .add (.t 14) (.k (.I 1)), none⟩,
  ⟨(some 7), .mv (.t 15), none⟩] false
abbrev c32_14 : AC := .seq c32_12 c32_13
abbrev c32_15 : AC := .seq c32_7 c32_14
abbrev c32_16 : AC := .loop c32_15
abbrev c32_17 : AC := .block 0 c32_16
abbrev c32_18 : AC := .seq c32_4 c32_17
abbrev c32_19 : AC := .reg [⟨(some 30), .mv (.t 5), none⟩,
  ⟨(some 4), .mv (.t 30), none⟩] false
abbrev c32_20 : AC := .seq c32_19 .ret
abbrev c32_21 : AC := .seq c32_18 c32_20
abbrev c32_22 : AC := .seq c32_3 c32_21
abbrev c32_23 : AC := .seq c32_2 c32_22
abbrev c32_24 : AC := .seq c32_1 c32_23
abbrev c32 : AC := c32_24
theorem code32 : fnCode Try.prog 32 = some (c32, [4], 31) := by kernel_rfl
/- coinage/coinagebase.Order -/
abbrev c35_1 : AC := .reg [⟨(some 4), .mv (.k (.B false)), none⟩] false
abbrev c35_2 : AC := .reg [⟨(some 7), .mv (.t 0), none⟩,
  ⟨(some 8), .len (.t 7), none⟩,
  ⟨(some 9), .mv (.t 1), none⟩,
  ⟨(some 10), .bin .neq (.t 8) (.t 9), none⟩] false
abbrev c35_3 : AC := .reg [⟨(some 4), .mv (.k (.B false)), none⟩] false
abbrev c35_4 : AC := .seq c35_3 .ret
abbrev c35_5 : AC := .cond (.t 10) c35_4 .skip
abbrev c35_6 : AC := .seq c35_2 c35_5
abbrev c35_7 : AC := .reg [⟨(some 5), .mv (.k (.I 0)), none⟩] false
abbrev c35_8 : AC := .reg [⟨(some 11), .mv (.t 5), none⟩,
  ⟨(some 12), .mv (.t 1), none⟩,
  ⟨(some 13), .bin .lss (.t 11) (.t 12), none⟩] false
abbrev c35_9 : AC := .cond (.t 13) .skip (.exit 0)
abbrev c35_10 : AC := .seq c35_8 c35_9
abbrev c35_11 : AC := .reg [⟨(some 16), .mv (.t 0), none⟩,
  ⟨(some 17), .mv (.t 5), none⟩,
  ⟨(some 18), .iad 1 (.t 16) (.t 17), none⟩,
  ⟨(some 19), .ld none (.t 18), none⟩,
  ⟨(some 20), .bin .lss (.t 19) (.k (.I 0)), none⟩,
  ⟨(some 21), .mv (.t 20), none⟩,
  ⟨(some 22), .mv (.t 0), (some (21, false))⟩,
  ⟨(some 23), .mv (.t 5), (some (21, false))⟩,
  ⟨(some 24), .iad 1 (.t 22) (.t 23), (some (21, false))⟩,
  ⟨(some 25), .ld none (.t 24), (some (21, false))⟩,
  ⟨(some 26), .mv (.t 1), (some (21, false))⟩,
  ⟨(some 27), .bin .geq (.t 25) (.t 26), (some (21, false))⟩,
  ⟨(some 28), .pick (.t 21) (.k (.B true)) (.t 27), none⟩] false
abbrev c35_12 : AC := .reg [⟨(some 4), .mv (.k (.B false)), none⟩] false
abbrev c35_13 : AC := .seq c35_12 .ret
abbrev c35_14 : AC := .cond (.t 28) c35_13 .skip
abbrev c35_15 : AC := .seq c35_11 c35_14
abbrev c35_16 : AC := .reg [⟨(some 6), .mv (.k (.I 0)), none⟩] false
abbrev c35_17 : AC := .reg [⟨(some 29), .mv (.t 6), none⟩,
  ⟨(some 30), .mv (.t 5), none⟩,
  ⟨(some 31), .bin .lss (.t 29) (.t 30), none⟩] false
abbrev c35_18 : AC := .cond (.t 31) .skip (.exit 2)
abbrev c35_19 : AC := .seq c35_17 c35_18
abbrev c35_20 : AC := .regD [(⟨(some 34), .mv (.t 0), none⟩, [0]),
  (⟨(some 35), .mv (.t 5), none⟩, [5]),
  (⟨(some 36), .iad 1 (.t 34) (.t 35), none⟩, [34, 35]),
  (⟨(some 37), .ld none (.t 36), none⟩, [36]),
  (⟨(some 38), .mv (.t 0), none⟩, [0]),
  (⟨(some 39), .mv (.t 6), none⟩, [6]),
  (⟨(some 40), .iad 1 (.t 38) (.t 39), none⟩, [38, 39]),
  (⟨(some 41), .ld none (.t 40), none⟩, [40]),
  (⟨(some 42), .bin .eql (.t 37) (.t 41), none⟩, [37, 41])]
abbrev c35_21 : AC := .reg [⟨(some 4), .mv (.k (.B false)), none⟩] false
abbrev c35_22 : AC := .seq c35_21 .ret
abbrev c35_23 : AC := .cond (.t 42) c35_22 .skip
abbrev c35_24 : AC := .seq c35_20 c35_23
abbrev c35_25 : AC := .block 3 c35_24
abbrev c35_26 : AC := .reg [⟨(some 32), .mv (.t 6), none⟩,
  ⟨(some 33), .bin .add (.t 32) (.k (.I 1)), none⟩,
  ⟨(some 6), .mv (.t 33), none⟩] false
abbrev c35_27 : AC := .seq c35_25 c35_26
abbrev c35_28 : AC := .seq c35_19 c35_27
abbrev c35_29 : AC := .loop c35_28
abbrev c35_30 : AC := .block 2 c35_29
abbrev c35_31 : AC := .seq c35_16 c35_30
abbrev c35_32 : AC := .seq c35_15 c35_31
abbrev c35_33 : AC := .block 1 c35_32
abbrev c35_34 : AC := .reg [⟨(some 14), .mv (.t 5), none⟩,
  ⟨(some 15), .bin .add (.t 14) (.k (.I 1)), none⟩,
  ⟨(some 5), .mv (.t 15), none⟩] false
abbrev c35_35 : AC := .seq c35_33 c35_34
abbrev c35_36 : AC := .seq c35_10 c35_35
abbrev c35_37 : AC := .loop c35_36
abbrev c35_38 : AC := .block 0 c35_37
abbrev c35_39 : AC := .seq c35_7 c35_38
abbrev c35_40 : AC := .reg [⟨(some 4), .mv (.k (.B true)), none⟩] false
abbrev c35_41 : AC := .seq c35_40 .ret
abbrev c35_42 : AC := .seq c35_39 c35_41
abbrev c35_43 : AC := .seq c35_6 c35_42
abbrev c35_44 : AC := .seq c35_1 c35_43
abbrev c35 : AC := c35_44
theorem code35 : fnCode Try.prog 35 = some (c35, [4], 43) := by kernel_rfl
/- coinage/coinageref27.runs -/
abbrev c36_1 : AC := .reg [⟨(some 4), .mv (.k (.I 0)), none⟩] false
abbrev c36_2 : AC := .reg [⟨(some 5), .mv (.k (.I 0)), none⟩] false
abbrev c36_3 : AC := .reg [⟨(some 6), .mv (.k (.I 0)), none⟩] false
abbrev c36_4 : AC := .reg [⟨(some 7), .mv (.t 6), none⟩,
  ⟨(some 8), .mv (.t 1), none⟩,
  ⟨(some 9), .len (.t 8), none⟩,
  ⟨(some 10), .bin .lss (.t 7) (.t 9), none⟩] false
abbrev c36_5 : AC := .cond (.t 10) .skip (.exit 0)
abbrev c36_6 : AC := .seq c36_4 c36_5
abbrev c36_7 : AC := .reg [⟨(some 13), .mv (.t 0), none⟩,
  ⟨(some 14), .mv (.t 1), none⟩,
  ⟨(some 15), .mv (.t 6), none⟩,
  ⟨(some 16), .iad 1 (.t 14) (.t 15), none⟩,
  ⟨(some 17), .ld none (.t 16), none⟩,
  ⟨(some 18), .call 28 [(.t 13), (.t 17)], none⟩,
  ⟨(some 19), .mv (.t 18), none⟩,
  ⟨(some 20), .mv (.t 6), (some (19, true))⟩,
  ⟨(some 21), .bin .eql (.t 20) (.k (.I 0)), (some (19, true))⟩,
  ⟨(some 22), .mv (.t 21), (some (19, true))⟩,
  ⟨(some 23), .mv (.t 0), (some (22, false))⟩,
  ⟨(some 24), .mv (.t 1), (some (22, false))⟩,
  ⟨(some 25), .mv (.t 6), (some (22, false))⟩,
  ⟨(some 26), .bin .sub (.t 25) (.k (.I 1)), (some (22, false))⟩,
  ⟨(some 27), .iad 1 (.t 24) (.t 26), (some (22, false))⟩,
  ⟨(some 28), .ld none (.t 27), (some (22, false))⟩,
  ⟨(some 29), .call 28 [(.t 23), (.t 28)], (some (22, false))⟩,
  ⟨(some 30), .not (.t 29), (some (22, false))⟩,
  ⟨(some 31), .pick (.t 22) (.k (.B true)) (.t 30), (some (19, true))⟩,
  ⟨(some 32), .pick (.t 19) (.t 31) (.k (.B false)), none⟩] false
abbrev c36_8 : AC := .reg [⟨(some 33), .mv (.t 5), none⟩,
  ⟨(some 34), .bin .add (.t 33) (.k (.I 1)), none⟩,
  ⟨(some 5), .mv (.t 34), none⟩] false
abbrev c36_9 : AC := .cond (.t 32) c36_8 .skip
abbrev c36_10 : AC := .seq c36_7 c36_9
abbrev c36_11 : AC := .block 1 c36_10
abbrev c36_12 : AC := .reg [⟨(some 11), .mv (.t 6), none⟩,
  ⟨(some 12), .bin .add (.t 11) (.k (.I 1)), none⟩,
  ⟨(some 6), .mv (.t 12), none⟩] false
abbrev c36_13 : AC := .seq c36_11 c36_12
abbrev c36_14 : AC := .seq c36_6 c36_13
abbrev c36_15 : AC := .loop c36_14
abbrev c36_16 : AC := .block 0 c36_15
abbrev c36_17 : AC := .seq c36_3 c36_16
abbrev c36_18 : AC := .reg [⟨(some 35), .mv (.t 5), none⟩,
  ⟨(some 4), .mv (.t 35), none⟩] false
abbrev c36_19 : AC := .seq c36_18 .ret
abbrev c36_20 : AC := .seq c36_17 c36_19
abbrev c36_21 : AC := .seq c36_2 c36_20
abbrev c36_22 : AC := .seq c36_1 c36_21
abbrev c36 : AC := c36_22
theorem code36 : fnCode Try.prog 36 = some (c36, [4], 36) := by kernel_rfl
/- slices.Contains[[]int,int] -/
abbrev c41_1 : AC := .reg [⟨(some 4), .mv (.k (.B false)), none⟩] false
abbrev c41_2 : AC := .reg [⟨(some 5), .mv (.t 0), none⟩,
  ⟨(some 6), .mv (.t 1), none⟩,
  ⟨(some 7), .call 46 [(.t 5), (.t 6)], none⟩,
  ⟨(some 8), .bin .geq (.t 7) (.k (.I 0)), none⟩,
  ⟨(some 4), .mv (.t 8), none⟩] false
abbrev c41_3 : AC := .seq c41_2 .ret
abbrev c41_4 : AC := .seq c41_1 c41_3
abbrev c41 : AC := c41_4
theorem code41 : fnCode Try.prog 41 = some (c41, [4], 9) := by kernel_rfl
/- coinage/consecutive.walk -/
abbrev c38_1 : AC := .reg [⟨(some 10), .mv (.k (.B false)), none⟩] false
abbrev c38_2 : AC := .reg [⟨(some 16), .mv (.t 2), none⟩,
  ⟨(some 17), .len (.t 16), none⟩,
  ⟨(some 18), .mv (.t 0), none⟩,
  ⟨(some 19), .bin .eql (.t 17) (.t 18), none⟩] false
abbrev c38_3 : AC := .reg [⟨(some 20), .mv (.t 4), none⟩,
  ⟨(some 21), .mv (.t 2), none⟩,
  ⟨(some 22), .callv (.t 20) [(.t 21)], none⟩,
  ⟨(some 10), .mv (.t 22), none⟩] false
abbrev c38_4 : AC := .seq c38_3 .ret
abbrev c38_5 : AC := .cond (.t 19) c38_4 .skip
abbrev c38_6 : AC := .seq c38_2 c38_5
abbrev c38_7 : AC := .reg [⟨(some 23), .mv (.t 0), none⟩,
  ⟨(some 24), .mv (.k (.I 0)), none⟩] false
abbrev c38_8 : AC := .reg [⟨(some 25), .bin .lss (.t 24) (.t 23), none⟩] false
abbrev c38_9 : AC := .cond (.t 25) .skip (.exit 0)
abbrev c38_10 : AC := .reg [⟨(some 26), .mv (.t 24), none⟩,
  ⟨(some 11), .mv (.t 26), none⟩] false
abbrev c38_11 : AC := .reg [⟨(some 27), .mv (.t 2), none⟩,
  ⟨(some 28), .mv (.t 11), none⟩,
  ⟨(some 29), .call 41 [(.t 27), (.t 28)], none⟩] false
abbrev c38_12 : AC := .cond (.t 29) (.exit 1) .skip
abbrev c38_13 : AC := .seq c38_11 c38_12
abbrev c38_14 : AC := .reg [⟨(some 30), .mv (.t 3), none⟩,
  ⟨(some 31), .call 43 [(.t 30)], none⟩,
  ⟨(some 12), .mv (.t 31), none⟩,
  ⟨(some 13), .mv (.k (.B true)), none⟩] false
abbrev c38_15 : AC := .reg [⟨(some 32), .mv (.t 1), none⟩,
  ⟨(some 33), .len (.t 32), none⟩,
  ⟨(some 34), .mv (.k (.I 0)), none⟩] false
abbrev c38_16 : AC := .reg [⟨(some 35), .bin .lss (.t 34) (.t 33), none⟩] false
abbrev c38_17 : AC := .cond (.t 35) .skip (.exit 2)
abbrev c38_18 : AC := .reg [⟨(some 36), .mv (.t 34), none⟩,
  ⟨(some 37), .iad 1 (.t 32) (.t 34), none⟩,
  ⟨(some 38), .ld none (.t 37), none⟩,
  ⟨(some 14), .mv (.t 36), none⟩,
  ⟨(some 15), .mv (.t 38), none⟩] false
abbrev c38_19 : AC := .reg [⟨(some 39), .mv (.t 15), none⟩,
  ⟨(some 40), .mv (.t 11), none⟩,
  ⟨(some 41), .call 41 [(.t 39), (.t 40)], none⟩] false
abbrev c38_20 : AC := .reg [⟨(some 42), .mv (.t 12), none⟩,
  ⟨(some 43), .mv (.t 14), none⟩,
  ⟨(some 44), .iad 1 (.t 42) (.t 43), none⟩,
  ⟨(some 45), .ld none (.t 44), none⟩,
  ⟨(some 46), .bin .sub (.t 45) (.k (.I 1)), none⟩,
  ⟨(some 47), .iad 1 (.t 42) (.t 43), none⟩,
  ⟨none, .st none (.t 47) (.t 46), none⟩] false
abbrev c38_21 : AC := .reg [⟨(some 48), .mv (.t 3), none⟩,
  ⟨(some 49), .mv (.t 14), none⟩,
  ⟨(some 50), .iad 1 (.t 48) (.t 49), none⟩,
  ⟨(some 51), .ld none (.t 50), none⟩,
  ⟨(some 52), .bin .gtr (.t 51) (.k (.I 0)), none⟩,
  ⟨(some 53), .mv (.t 52), none⟩,
  ⟨(some 54), .mv (.t 3), (some (53, true))⟩,
  ⟨(some 55), .mv (.t 14), (some (53, true))⟩,
  ⟨(some 56), .iad 1 (.t 54) (.t 55), (some (53, true))⟩,
  ⟨(some 57), .ld none (.t 56), (some (53, true))⟩,
  ⟨(some 58), .mv (.t 15), (some (53, true))⟩,
  ⟨(some 59), .len (.t 58), (some (53, true))⟩,
  ⟨(some 60), .bin .lss (.t 57) (.t 59), (some (53, true))⟩,
  ⟨(some 61), .pick (.t 53) (.t 60) (.k (.B false)), none⟩] false
abbrev c38_22 : AC := .reg [⟨(some 13), .mv (.k (.B false)), none⟩] false
abbrev c38_23 : AC := .cond (.t 61) c38_22 .skip
abbrev c38_24 : AC := .seq c38_21 c38_23
abbrev c38_25 : AC := .cond (.t 41) c38_20 c38_24
abbrev c38_26 : AC := .seq c38_19 c38_25
abbrev c38_27 : AC := .seq c38_18 c38_26
abbrev c38_28 : AC := .block 3 c38_27
abbrev c38_29 : AC := .reg [⟨(some 62), .bin .add (.t 34) (.k (.I 1)), none⟩,
  ⟨(some 34), .mv (.t 62), none⟩] false
abbrev c38_30 : AC := .seq c38_28 c38_29
abbrev c38_31 : AC := .seq c38_17 c38_30
abbrev c38_32 : AC := .seq c38_16 c38_31
abbrev c38_33 : AC := .loop c38_32
abbrev c38_34 : AC := .block 2 c38_33
abbrev c38_35 : AC := .seq c38_15 c38_34
abbrev c38_36 : AC := .reg [⟨(some 63), .mv (.t 13), none⟩,
  ⟨(some 64), .mv (.t 63), none⟩,
  ⟨(some 65), .mv (.t 0), (some (64, true))⟩,
  ⟨(some 66), .mv (.t 1), (some (64, true))⟩,
  ⟨(some 67), .mv (.t 2), (some (64, true))⟩,
  ⟨(some 68), .call 43 [(.t 67)], (some (64, true))⟩,
  ⟨(some 69), .mv (.t 11), (some (64, true))⟩,
  ⟨(some 70), .bslice 3 1 [(.t 69)], (some (64, true))⟩,
  ⟨(some 71), .app 3 1 8 (.t 68) (.t 70), (some (64, true))⟩,
  ⟨(some 72), .mv (.t 12), (some (64, true))⟩,
  ⟨(some 73), .mv (.t 4), (some (64, true))⟩,
  ⟨(some 74), .call 38 [(.t 65), (.t 66), (.t 71), (.t 72), (.t 73)], (some (64, true))⟩,
  ⟨(some 75), .not (.t 74), (some (64, true))⟩,
  ⟨(some 76), .pick (.t 64) (.t 75) (.k (.B false)), none⟩] false
abbrev c38_37 : AC := .reg [⟨(some 10), .mv (.k (.B false)), none⟩] false
abbrev c38_38 : AC := .seq c38_37 .ret
abbrev c38_39 : AC := .cond (.t 76) c38_38 .skip
abbrev c38_40 : AC := .seq c38_36 c38_39
abbrev c38_41 : AC := .seq c38_35 c38_40
abbrev c38_42 : AC := .seq c38_14 c38_41
abbrev c38_43 : AC := .seq c38_13 c38_42
abbrev c38_44 : AC := .seq c38_10 c38_43
abbrev c38_45 : AC := .block 1 c38_44
abbrev c38_46 : AC := .reg [⟨(some 77), .bin .add (.t 24) (.k (.I 1)), none⟩,
  ⟨(some 24), .mv (.t 77), none⟩] false
abbrev c38_47 : AC := .seq c38_45 c38_46
abbrev c38_48 : AC := .seq c38_9 c38_47
abbrev c38_49 : AC := .seq c38_8 c38_48
abbrev c38_50 : AC := .loop c38_49
abbrev c38_51 : AC := .block 0 c38_50
abbrev c38_52 : AC := .seq c38_7 c38_51
abbrev c38_53 : AC := .reg [⟨(some 10), .mv (.k (.B true)), none⟩] false
abbrev c38_54 : AC := .seq c38_53 .ret
abbrev c38_55 : AC := .seq c38_52 c38_54
abbrev c38_56 : AC := .seq c38_6 c38_55
abbrev c38_57 : AC := .seq c38_1 c38_56
abbrev c38 : AC := c38_57
theorem code38 : fnCode Try.prog 38 = some (c38, [10], 78) := by kernel_rfl
/- coinage/coinageref27.Orders -/
abbrev c39_1 : AC := .reg [⟨(some 2), .mv (.k (.c .nil)), none⟩] false
abbrev c39_2 : AC := .reg [⟨(some 8), .bslice 28 1 [(.k (.c .nil))], none⟩,
  ⟨(some 3), .mv (.t 8), none⟩] false
abbrev c39_3 : AC := .reg [⟨(some 4), .mv (.k (.I 0)), none⟩] false
abbrev c39_4 : AC := .reg [⟨(some 9), .mv (.t 4), none⟩,
  ⟨(some 10), .mv (.t 0), none⟩,
  ⟨(some 11), .bin .lss (.t 9) (.t 10), none⟩] false
abbrev c39_5 : AC := .cond (.t 11) .skip (.exit 0)
abbrev c39_6 : AC := .seq c39_4 c39_5
abbrev c39_7 : AC := .reg [⟨(some 5), .mv (.k (.c .nil)), none⟩] false
abbrev c39_8 : AC := .reg [⟨(some 6), .mv (.k (.I 0)), none⟩] false
abbrev c39_9 : AC := .reg [⟨(some 14), .mv (.t 6), none⟩,
  ⟨(some 15), .mv (.t 3), none⟩,
  ⟨(some 16), .len (.t 15), none⟩,
  ⟨(some 17), .bin .lss (.t 14) (.t 16), none⟩] false
abbrev c39_10 : AC := .cond (.t 17) .skip (.exit 2)
abbrev c39_11 : AC := .seq c39_9 c39_10
abbrev c39_12 : AC := .reg [⟨(some 7), .mv (.k (.I 0)), none⟩] false
abbrev c39_13 : AC := .reg [⟨(some 20), .mv (.t 7), none⟩,
  ⟨(some 21), .mv (.t 0), none⟩,
  ⟨(some 22), .bin .lss (.t 20) (.t 21), none⟩] false
abbrev c39_14 : AC := .cond (.t 22) .skip (.exit 4)
abbrev c39_15 : AC := .seq c39_13 c39_14
abbrev c39_16 : AC := .reg [⟨(some 25), .mv (.t 3), none⟩,
  ⟨(some 26), .mv (.t 6), none⟩,
  ⟨(some 27), .iad 1 (.t 25) (.t 26), none⟩,
  ⟨(some 28), .ld none (.t 27), none⟩,
  ⟨(some 29), .mv (.t 7), none⟩,
  ⟨(some 30), .call 28 [(.t 28), (.t 29)], none⟩,
  ⟨(some 31), .not (.t 30), none⟩] false
abbrev c39_17 : AC := .reg [⟨(some 32), .mv (.t 5), none⟩,
  ⟨(some 33), .bslice 3 1 [], none⟩,
  ⟨(some 34), .mv (.t 3), none⟩,
  ⟨(some 35), .mv (.t 6), none⟩,
  ⟨(some 36), .iad 1 (.t 34) (.t 35), none⟩,
  ⟨(some 37), .ld none (.t 36), none⟩,
  ⟨(some 38), .app 3 1 8 (.t 33) (.t 37), none⟩,
  ⟨(some 39), .mv (.t 7), none⟩,
  ⟨(some 40), .bslice 3 1 [(.t 39)], none⟩,
  ⟨(some 41), .app 3 1 8 (.t 38) (.t 40), none⟩,
  ⟨(some 42), .bslice 28 1 [(.t 41)], none⟩,
  ⟨(some 43), .app 28 1 24 (.t 32) (.t 42), none⟩,
  ⟨(some 5), .mv (.t 43), none⟩] false
abbrev c39_18 : AC := .cond (.t 31) c39_17 .skip
abbrev c39_19 : AC := .seq c39_16 c39_18
abbrev c39_20 : AC := .block 5 c39_19
abbrev c39_21 : AC := .reg [⟨(some 23), .mv (.t 7), none⟩,
  ⟨(some 24), .bin .add (.t 23) (.k (.I 1)), none⟩,
  ⟨(some 7), .mv (.t 24), none⟩] false
abbrev c39_22 : AC := .seq c39_20 c39_21
abbrev c39_23 : AC := .seq c39_15 c39_22
abbrev c39_24 : AC := .loop c39_23
abbrev c39_25 : AC := .block 4 c39_24
abbrev c39_26 : AC := .seq c39_12 c39_25
abbrev c39_27 : AC := .block 3 c39_26
abbrev c39_28 : AC := .reg [⟨(some 18), .mv (.t 6), none⟩,
  ⟨(some 19), .bin .add (.t 18) (.k (.I 1)), none⟩,
  ⟨(some 6), .mv (.t 19), none⟩] false
abbrev c39_29 : AC := .seq c39_27 c39_28
abbrev c39_30 : AC := .seq c39_11 c39_29
abbrev c39_31 : AC := .loop c39_30
abbrev c39_32 : AC := .block 2 c39_31
abbrev c39_33 : AC := .seq c39_8 c39_32
abbrev c39_34 : AC := .reg [⟨(some 44), .mv (.t 5), none⟩,
  ⟨(some 3), .mv (.t 44), none⟩] false
abbrev c39_35 : AC := .seq c39_33 c39_34
abbrev c39_36 : AC := .seq c39_7 c39_35
abbrev c39_37 : AC := .block 1 c39_36
abbrev c39_38 : AC := .reg [⟨(some 12), .mv (.t 4), none⟩,
  ⟨(some 13), .bin .add (.t 12) (.k (.I 1)), none⟩,
  ⟨(some 4), .mv (.t 13), none⟩] false
abbrev c39_39 : AC := .seq c39_37 c39_38
abbrev c39_40 : AC := .seq c39_6 c39_39
abbrev c39_41 : AC := .loop c39_40
abbrev c39_42 : AC := .block 0 c39_41
abbrev c39_43 : AC := .seq c39_3 c39_42
abbrev c39_44 : AC := .reg [⟨(some 45), .mv (.t 3), none⟩,
  ⟨(some 2), .mv (.t 45), none⟩] false
abbrev c39_45 : AC := .seq c39_44 .ret
abbrev c39_46 : AC := .seq c39_43 c39_45
abbrev c39_47 : AC := .seq c39_2 c39_46
abbrev c39_48 : AC := .seq c39_1 c39_47
abbrev c39 : AC := c39_48
theorem code39 : fnCode Try.prog 39 = some (c39, [2], 46) := by kernel_rfl

end Go.Proofs.Ytebmhidhimgfiaa

