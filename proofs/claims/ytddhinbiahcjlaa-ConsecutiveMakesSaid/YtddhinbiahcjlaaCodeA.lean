/-
  Lemmas for the proof: no statement of its own.
-/
import Derived.Test.YtddhinbiahcjlaaProg
import Derived.Test.YtddhinbiahcjlaaAlD
import Derived.KernelRfl
set_option linter.unusedVariables false
set_option linter.unusedSimpArgs false
open Go Go.AL
namespace Go.Proofs.Ytddhinbiahcjlaa
/- coinage/coinagebase.Lists -/
abbrev c7_1 : AC := .reg [⟨(some 4), .mv (.k (.B false)), none⟩] false
abbrev c7_2 : AC := .reg [⟨(some 6), .mv (.t 0), none⟩,
  ⟨(some 7), .len (.t 6), none⟩,
  ⟨(some 8), .mv (.t 1), none⟩,
  ⟨(some 9), .len (.t 8), none⟩,
  ⟨(some 10), .bin .neq (.t 7) (.t 9), none⟩] false
abbrev c7_3 : AC := .reg [⟨(some 4), .mv (.k (.B false)), none⟩] false
abbrev c7_4 : AC := .seq c7_3 .ret
abbrev c7_5 : AC := .cond (.t 10) c7_4 .skip
abbrev c7_6 : AC := .seq c7_2 c7_5
abbrev c7_7 : AC := .reg [⟨(some 5), .mv (.k (.I 0)), none⟩] false
abbrev c7_8 : AC := .reg [⟨(some 11), .mv (.t 5), none⟩,
  ⟨(some 12), .mv (.t 0), none⟩,
  ⟨(some 13), .len (.t 12), none⟩,
  ⟨(some 14), .bin .lss (.t 11) (.t 13), none⟩] false
abbrev c7_9 : AC := .cond (.t 14) .skip (.exit 0)
abbrev c7_10 : AC := .seq c7_8 c7_9
abbrev c7_11 : AC := .regD [(⟨(some 17), .mv (.t 0), none⟩, [0]),
  (⟨(some 18), .mv (.t 5), none⟩, [5]),
  (⟨(some 19), .iad 1 (.t 17) (.t 18), none⟩, [17, 18]),
  (⟨(some 20), .ld none (.t 19), none⟩, [19]),
  (⟨(some 21), .mv (.t 1), none⟩, [1]),
  (⟨(some 22), .mv (.t 5), none⟩, [5]),
  (⟨(some 23), .iad 1 (.t 21) (.t 22), none⟩, [21, 22]),
  (⟨(some 24), .ld none (.t 23), none⟩, [23]),
  (⟨(some 25), .call 12 [(.t 20), (.t 24)], none⟩, [20, 24]),
  (⟨(some 26), .not (.t 25), none⟩, [25])]
abbrev c7_12 : AC := .reg [⟨(some 4), .mv (.k (.B false)), none⟩] false
abbrev c7_13 : AC := .seq c7_12 .ret
abbrev c7_14 : AC := .cond (.t 26) c7_13 .skip
abbrev c7_15 : AC := .seq c7_11 c7_14
abbrev c7_16 : AC := .block 1 c7_15
abbrev c7_17 : AC := .reg [⟨(some 15), .mv (.t 5), none⟩,
  ⟨(some 16), .bin .add (.t 15) (.k (.I 1)), none⟩,
  ⟨(some 5), .mv (.t 16), none⟩] false
abbrev c7_18 : AC := .seq c7_16 c7_17
abbrev c7_19 : AC := .seq c7_10 c7_18
abbrev c7_20 : AC := .loop c7_19
abbrev c7_21 : AC := .block 0 c7_20
abbrev c7_22 : AC := .seq c7_7 c7_21
abbrev c7_23 : AC := .reg [⟨(some 4), .mv (.k (.B true)), none⟩] false
abbrev c7_24 : AC := .seq c7_23 .ret
abbrev c7_25 : AC := .seq c7_22 c7_24
abbrev c7_26 : AC := .seq c7_6 c7_25
abbrev c7_27 : AC := .seq c7_1 c7_26
abbrev c7 : AC := c7_27
theorem code7 : fnCode Try.prog 7 = some (c7, [4], 27) := by kernel_rfl
/- coinage/consecutive.Valid -/
abbrev c8_1 : AC := .reg [⟨(some 4), .mv (.k (.B false)), none⟩] false
abbrev c8_2 : AC := .reg [⟨(some 9), .mv (.t 0), none⟩,
  ⟨(some 10), .bin .lss (.t 9) (.k (.I 0)), none⟩,
  ⟨(some 11), .mv (.t 10), none⟩,
  ⟨(some 12), .mv (.t 0), (some (11, false))⟩,
  ⟨(some 13), .bin .gtr (.t 12) (.k (.I 7)), (some (11, false))⟩,
  ⟨(some 14), .pick (.t 11) (.k (.B true)) (.t 13), none⟩,
  ⟨(some 15), .mv (.t 14), none⟩,
  ⟨(some 16), .mv (.t 1), (some (15, false))⟩,
  ⟨(some 17), .len (.t 16), (some (15, false))⟩,
  ⟨(some 18), .bin .gtr (.t 17) (.k (.I 16)), (some (15, false))⟩,
  ⟨(some 19), .pick (.t 15) (.k (.B true)) (.t 18), none⟩] false
abbrev c8_3 : AC := .reg [⟨(some 4), .mv (.k (.B false)), none⟩] false
abbrev c8_4 : AC := .seq c8_3 .ret
abbrev c8_5 : AC := .cond (.t 19) c8_4 .skip
abbrev c8_6 : AC := .seq c8_2 c8_5
abbrev c8_7 : AC := .reg [⟨(some 20), .mv (.t 1), none⟩,
  ⟨(some 21), .len (.t 20), none⟩,
  ⟨(some 22), .mv (.k (.I 0)), none⟩] false
abbrev c8_8 : AC := .reg [⟨(some 23), .bin .lss (.t 22) (.t 21), none⟩] false
abbrev c8_9 : AC := .cond (.t 23) .skip (.exit 0)
abbrev c8_10 : AC := .reg [⟨(some 24), .iad 1 (.t 20) (.t 22), none⟩,
  ⟨(some 25), .ld none (.t 24), none⟩,
  ⟨(some 6), .mv (.t 25), none⟩] false
abbrev c8_11 : AC := .reg [⟨(some 26), .mv (.t 6), none⟩,
  ⟨(some 27), .len (.t 26), none⟩,
  ⟨(some 28), .mv (.k (.I 0)), none⟩] false
abbrev c8_12 : AC := .reg [⟨(some 29), .bin .lss (.t 28) (.t 27), none⟩] false
abbrev c8_13 : AC := .cond (.t 29) .skip (.exit 2)
abbrev c8_14 : AC := .reg [⟨(some 30), .mv (.t 28), none⟩,
  ⟨(some 31), .iad 1 (.t 26) (.t 28), none⟩,
  ⟨(some 32), .ld none (.t 31), none⟩,
  ⟨(some 7), .mv (.t 30), none⟩,
  ⟨(some 8), .mv (.t 32), none⟩] false
abbrev c8_15 : AC := .reg [⟨(some 33), .mv (.t 8), none⟩,
  ⟨(some 34), .bin .lss (.t 33) (.k (.I 0)), none⟩,
  ⟨(some 35), .mv (.t 34), none⟩,
  ⟨(some 36), .mv (.t 8), (some (35, false))⟩,
  ⟨(some 37), .mv (.t 0), (some (35, false))⟩,
  ⟨(some 38), .bin .geq (.t 36) (.t 37), (some (35, false))⟩,
  ⟨(some 39), .pick (.t 35) (.k (.B true)) (.t 38), none⟩,
  ⟨(some 40), .mv (.t 39), none⟩,
  ⟨(some 41), .mv (.t 7), (some (40, false))⟩,
  ⟨(some 42), .bin .gtr (.t 41) (.k (.I 0)), (some (40, false))⟩,
  ⟨(some 43), .mv (.t 42), (some (40, false))⟩,
  ⟨(some 44), .mv (.t 8), (some (43, true))⟩,
  ⟨(some 45), .mv (.t 6), (some (43, true))⟩,
  ⟨(some 46), .mv (.t 7), (some (43, true))⟩,
  ⟨(some 47), .bin .sub (.t 46) (.k (.I 1)), (some (43, true))⟩,
  ⟨(some 48), .iad 1 (.t 45) (.t 47), (some (43, true))⟩,
  ⟨(some 49), .ld none (.t 48), (some (43, true))⟩,
  ⟨(some 50), .bin .leq (.t 44) (.t 49), (some (43, true))⟩,
  ⟨(some 51), .pick (.t 43) (.t 50) (.k (.B false)), (some (40, false))⟩,
  ⟨(some 52), .pick (.t 40) (.k (.B true)) (.t 51), none⟩] false
abbrev c8_16 : AC := .reg [⟨(some 4), .mv (.k (.B false)), none⟩] false
abbrev c8_17 : AC := .seq c8_16 .ret
abbrev c8_18 : AC := .cond (.t 52) c8_17 .skip
abbrev c8_19 : AC := .seq c8_15 c8_18
abbrev c8_20 : AC := .seq c8_14 c8_19
abbrev c8_21 : AC := .block 3 c8_20
abbrev c8_22 : AC := .reg [⟨(some 53), .bin .add (.t 28) (.k (.I 1)), none⟩,
  ⟨(some 28), .mv (.t 53), none⟩] false
abbrev c8_23 : AC := .seq c8_21 c8_22
abbrev c8_24 : AC := .seq c8_13 c8_23
abbrev c8_25 : AC := .seq c8_12 c8_24
abbrev c8_26 : AC := .loop c8_25
abbrev c8_27 : AC := .block 2 c8_26
abbrev c8_28 : AC := .seq c8_11 c8_27
abbrev c8_29 : AC := .seq c8_10 c8_28
abbrev c8_30 : AC := .block 1 c8_29
abbrev c8_31 : AC := .reg [⟨(some 54), .bin .add (.t 22) (.k (.I 1)), none⟩,
  ⟨(some 22), .mv (.t 54), none⟩] false
abbrev c8_32 : AC := .seq c8_30 c8_31
abbrev c8_33 : AC := .seq c8_9 c8_32
abbrev c8_34 : AC := .seq c8_8 c8_33
abbrev c8_35 : AC := .loop c8_34
abbrev c8_36 : AC := .block 0 c8_35
abbrev c8_37 : AC := .seq c8_7 c8_36
abbrev c8_38 : AC := .reg [⟨(some 4), .mv (.k (.B true)), none⟩] false
abbrev c8_39 : AC := .seq c8_38 .ret
abbrev c8_40 : AC := .seq c8_37 c8_39
abbrev c8_41 : AC := .seq c8_6 c8_40
abbrev c8_42 : AC := .seq c8_1 c8_41
abbrev c8 : AC := c8_42
theorem code8 : fnCode Try.prog 8 = some (c8, [4], 55) := by kernel_rfl
/- coinage/coinagebase.Ints -/
abbrev c12_1 : AC := .reg [⟨(some 4), .mv (.k (.B false)), none⟩] false
abbrev c12_2 : AC := .reg [⟨(some 6), .mv (.t 0), none⟩,
  ⟨(some 7), .len (.t 6), none⟩,
  ⟨(some 8), .mv (.t 1), none⟩,
  ⟨(some 9), .len (.t 8), none⟩,
  ⟨(some 10), .bin .neq (.t 7) (.t 9), none⟩] false
abbrev c12_3 : AC := .reg [⟨(some 4), .mv (.k (.B false)), none⟩] false
abbrev c12_4 : AC := .seq c12_3 .ret
abbrev c12_5 : AC := .cond (.t 10) c12_4 .skip
abbrev c12_6 : AC := .seq c12_2 c12_5
abbrev c12_7 : AC := .reg [⟨(some 5), .mv (.k (.I 0)), none⟩] false
abbrev c12_8 : AC := .reg [⟨(some 11), .mv (.t 5), none⟩,
  ⟨(some 12), .mv (.t 0), none⟩,
  ⟨(some 13), .len (.t 12), none⟩,
  ⟨(some 14), .bin .lss (.t 11) (.t 13), none⟩] false
abbrev c12_9 : AC := .cond (.t 14) .skip (.exit 0)
abbrev c12_10 : AC := .seq c12_8 c12_9
abbrev c12_11 : AC := .regD [(⟨(some 17), .mv (.t 0), none⟩, [0]),
  (⟨(some 18), .mv (.t 5), none⟩, [5]),
  (⟨(some 19), .iad 1 (.t 17) (.t 18), none⟩, [17, 18]),
  (⟨(some 20), .ld none (.t 19), none⟩, [19]),
  (⟨(some 21), .mv (.t 1), none⟩, [1]),
  (⟨(some 22), .mv (.t 5), none⟩, [5]),
  (⟨(some 23), .iad 1 (.t 21) (.t 22), none⟩, [21, 22]),
  (⟨(some 24), .ld none (.t 23), none⟩, [23]),
  (⟨(some 25), .bin .neq (.t 20) (.t 24), none⟩, [20, 24])]
abbrev c12_12 : AC := .reg [⟨(some 4), .mv (.k (.B false)), none⟩] false
abbrev c12_13 : AC := .seq c12_12 .ret
abbrev c12_14 : AC := .cond (.t 25) c12_13 .skip
abbrev c12_15 : AC := .seq c12_11 c12_14
abbrev c12_16 : AC := .block 1 c12_15
abbrev c12_17 : AC := .reg [⟨(some 15), .mv (.t 5), none⟩,
  ⟨(some 16), .bin .add (.t 15) (.k (.I 1)), none⟩,
  ⟨(some 5), .mv (.t 16), none⟩] false
abbrev c12_18 : AC := .seq c12_16 c12_17
abbrev c12_19 : AC := .seq c12_10 c12_18
abbrev c12_20 : AC := .loop c12_19
abbrev c12_21 : AC := .block 0 c12_20
abbrev c12_22 : AC := .seq c12_7 c12_21
abbrev c12_23 : AC := .reg [⟨(some 4), .mv (.k (.B true)), none⟩] false
abbrev c12_24 : AC := .seq c12_23 .ret
abbrev c12_25 : AC := .seq c12_22 c12_24
abbrev c12_26 : AC := .seq c12_6 c12_25
abbrev c12_27 : AC := .seq c12_1 c12_26
abbrev c12 : AC := c12_27
theorem code12 : fnCode Try.prog 12 = some (c12, [4], 26) := by kernel_rfl
/- coinage/consecutive.First -/
abbrev c9_1 : AC := .reg [⟨(some 4), .mv (.k (.c .nil)), none⟩,
  ⟨(some 5), .mv (.k (.I 0)), none⟩] false
abbrev c9_2 : AC := .reg [⟨(some 8), .mv (.t 0), none⟩,
  ⟨(some 9), .mv (.t 1), none⟩,
  ⟨(some 10), .call 8 [(.t 8), (.t 9)], none⟩,
  ⟨(some 11), .not (.t 10), none⟩] false
abbrev c9_3 : AC := .reg [⟨(some 4), .mv (.k (.c .nil)), none⟩,
  ⟨(some 5), .mv (.k (.I 1)), none⟩] false
abbrev c9_4 : AC := .seq c9_3 .ret
abbrev c9_5 : AC := .cond (.t 11) c9_4 .skip
abbrev c9_6 : AC := .seq c9_2 c9_5
abbrev c9_7 : AC := .reg [⟨(some 6), .alloc 31 [(.c .nil)], none⟩] false
abbrev c9_8 : AC := .reg [⟨(some 7), .alloc 4 [(.B false)], none⟩,
  ⟨none, .st none (.t 7) (.k (.B false)), none⟩] false
abbrev c9_9 : AC := .reg [⟨(some 12), .mv (.t 0), none⟩,
  ⟨(some 13), .mv (.t 1), none⟩,
  ⟨(some 14), .mkfn 23 [(.t 6), (.t 7)], none⟩,
  ⟨(some 15), .call 22 [(.t 12), (.t 13), (.t 14)], none⟩] false
abbrev c9_10 : AC := .reg [⟨(some 16), .ld none (.t 7), none⟩,
  ⟨(some 17), .not (.t 16), none⟩] false
abbrev c9_11 : AC := .reg [⟨(some 4), .mv (.k (.c .nil)), none⟩,
  ⟨(some 5), .mv (.k (.I 7)), none⟩] false
abbrev c9_12 : AC := .seq c9_11 .ret
abbrev c9_13 : AC := .cond (.t 17) c9_12 .skip
abbrev c9_14 : AC := .seq c9_10 c9_13
abbrev c9_15 : AC := .reg [⟨(some 18), .ld none (.t 6), none⟩,
  ⟨(some 4), .mv (.t 18), none⟩,
  ⟨(some 5), .mv (.k (.I 0)), none⟩] false
abbrev c9_16 : AC := .seq c9_15 .ret
abbrev c9_17 : AC := .seq c9_14 c9_16
abbrev c9_18 : AC := .seq c9_9 c9_17
abbrev c9_19 : AC := .seq c9_8 c9_18
abbrev c9_20 : AC := .seq c9_7 c9_19
abbrev c9_21 : AC := .seq c9_6 c9_20
abbrev c9_22 : AC := .seq c9_1 c9_21
abbrev c9 : AC := c9_22
theorem code9 : fnCode Try.prog 9 = some (c9, [4, 5], 19) := by kernel_rfl
/- slices.Index[[]int,int] -/
abbrev c32_1 : AC := .reg [⟨(some 4), .mv (.k (.I 0)), none⟩] false
abbrev c32_2 : AC := .reg [⟨(some 6), .mv (.t 0), none⟩,
  ⟨(some 7), .len (.t 6), none⟩,
  ⟨(some 8), .mv (.k (.I 0)), none⟩] false
abbrev c32_3 : AC := .reg [⟨(some 9), .bin .lss (.t 8) (.t 7), none⟩] false
abbrev c32_4 : AC := .cond (.t 9) .skip (.exit 0)
abbrev c32_5 : AC := .reg [⟨(some 10), .mv (.t 8), none⟩,
  ⟨(some 5), .mv (.t 10), none⟩] false
abbrev c32_6 : AC := .reg [⟨(some 11), .mv (.t 1), none⟩,
  ⟨(some 12), .mv (.t 0), none⟩,
  ⟨(some 13), .mv (.t 5), none⟩,
  ⟨(some 14), .iad 1 (.t 12) (.t 13), none⟩,
  ⟨(some 15), .ld none (.t 14), none⟩,
  ⟨(some 16), .bin .eql (.t 11) (.t 15), none⟩] false
abbrev c32_7 : AC := .reg [⟨(some 17), .mv (.t 5), none⟩,
  ⟨(some 4), .mv (.t 17), none⟩] false
abbrev c32_8 : AC := .seq c32_7 .ret
abbrev c32_9 : AC := .cond (.t 16) c32_8 .skip
abbrev c32_10 : AC := .seq c32_6 c32_9
abbrev c32_11 : AC := .seq c32_5 c32_10
abbrev c32_12 : AC := .block 1 c32_11
abbrev c32_13 : AC := .reg [⟨(some 18), .bin .add (.t 8) (.k (.I 1)), none⟩,
  ⟨(some 8), .mv (.t 18), none⟩] false
abbrev c32_14 : AC := .seq c32_12 c32_13
abbrev c32_15 : AC := .seq c32_4 c32_14
abbrev c32_16 : AC := .seq c32_3 c32_15
abbrev c32_17 : AC := .loop c32_16
abbrev c32_18 : AC := .block 0 c32_17
abbrev c32_19 : AC := .seq c32_2 c32_18
abbrev c32_20 : AC := .reg [⟨(some 4), .mv (.k (.I (-1))), none⟩] false
abbrev c32_21 : AC := .seq c32_20 .ret
abbrev c32_22 : AC := .seq c32_19 c32_21
abbrev c32_23 : AC := .seq c32_1 c32_22
abbrev c32 : AC := c32_23
theorem code32 : fnCode Try.prog 32 = some (c32, [4], 19) := by kernel_rfl
/- slices.Clone[[]int,int] -/
abbrev c53_1 : AC := .reg [⟨(some 2), .mv (.k (.c .nil)), none⟩] false
abbrev c53_2 : AC := .reg [⟨(some 3), .mv (.t 0), none⟩,
  ⟨(some 4), .isnil false (.t 3), none⟩] false
abbrev c53_3 : AC := .reg [⟨(some 2), .mv (.k (.c .nil)), none⟩] false
abbrev c53_4 : AC := .seq c53_3 .ret
abbrev c53_5 : AC := .cond (.t 4) c53_4 .skip
abbrev c53_6 : AC := .seq c53_2 c53_5
abbrev c53_7 : AC := .reg [⟨(some 5), .bslice 3 1 [], none⟩,
  ⟨(some 6), .mv (.t 0), none⟩,
  ⟨(some 7), .app 3 1 8 (.t 5) (.t 6), none⟩,
  ⟨(some 2), .mv (.t 7), none⟩] false
abbrev c53_8 : AC := .seq c53_7 .ret
abbrev c53_9 : AC := .seq c53_6 c53_8
abbrev c53_10 : AC := .seq c53_1 c53_9
abbrev c53 : AC := c53_10
theorem code53 : fnCode Try.prog 53 = some (c53, [2], 8) := by kernel_rfl
/- coinage/consecutive.visitAll -/
abbrev c22_1 : AC := .reg [⟨(some 6), .mv (.k (.c .nil)), none⟩] false
abbrev c22_2 : AC := .reg [⟨(some 9), .mv (.t 1), none⟩,
  ⟨(some 10), .len (.t 9), none⟩,
  ⟨(some 11), .mv (.k (.I 0)), none⟩] false
abbrev c22_3 : AC := .reg [⟨(some 12), .bin .lss (.t 11) (.t 10), none⟩] false
abbrev c22_4 : AC := .cond (.t 12) .skip (.exit 0)
abbrev c22_5 : AC := .reg [⟨(some 13), .iad 1 (.t 9) (.t 11), none⟩,
  ⟨(some 14), .ld none (.t 13), none⟩,
  ⟨(some 8), .mv (.t 14), none⟩] false
abbrev c22_6 : AC := .reg [⟨(some 15), .mv (.t 6), none⟩,
  ⟨(some 16), .mv (.t 8), none⟩,
  ⟨(some 17), .len (.t 16), none⟩,
  ⟨(some 18), .bslice 3 1 [(.t 17)], none⟩,
  ⟨(some 19), .app 3 1 8 (.t 15) (.t 18), none⟩,
  ⟨(some 6), .mv (.t 19), none⟩] false
abbrev c22_7 : AC := .seq c22_5 c22_6
abbrev c22_8 : AC := .block 1 c22_7
abbrev c22_9 : AC := .reg [⟨(some 20), .bin .add (.t 11) (.k (.I 1)), none⟩,
  ⟨(some 11), .mv (.t 20), none⟩] false
abbrev c22_10 : AC := .seq c22_8 c22_9
abbrev c22_11 : AC := .seq c22_4 c22_10
abbrev c22_12 : AC := .seq c22_3 c22_11
abbrev c22_13 : AC := .loop c22_12
abbrev c22_14 : AC := .block 0 c22_13
abbrev c22_15 : AC := .seq c22_2 c22_14
abbrev c22_16 : AC := .reg [⟨(some 21), .mv (.t 0), none⟩,
  ⟨(some 22), .mv (.t 1), none⟩,
  ⟨(some 23), .mv (.t 6), none⟩,
  ⟨(some 24), .mv (.t 2), none⟩,
  ⟨(some 25), .call 36 [(.t 21), (.t 22), (.k (.c .nil)), (.t 23), (.t 24)], none⟩] false
abbrev c22_17 : AC := .seq c22_15 c22_16
abbrev c22_18 : AC := .seq c22_1 c22_17
abbrev c22 : AC := c22_18
theorem code22 : fnCode Try.prog 22 = some (c22, [], 26) := by kernel_rfl
/- coinage/consecutive.First$1 -/
abbrev c23_1 : AC := .reg [⟨(some 4), .mv (.k (.B false)), none⟩] false
abbrev c23_2 : AC := .reg [⟨(some 5), .mv (.t 0), none⟩,
  ⟨none, .st none (.t 1) (.t 5), none⟩,
  ⟨none, .st none (.t 2) (.k (.B true)), none⟩] false
abbrev c23_3 : AC := .reg [⟨(some 4), .mv (.k (.B false)), none⟩] false
abbrev c23_4 : AC := .seq c23_3 .ret
abbrev c23_5 : AC := .seq c23_2 c23_4
abbrev c23_6 : AC := .seq c23_1 c23_5
abbrev c23 : AC := c23_6
theorem code23 : fnCode Try.prog 23 = some (c23, [4], 6) := by kernel_rfl
/- slices.Contains[[]int,int] -/
abbrev c18_1 : AC := .reg [⟨(some 4), .mv (.k (.B false)), none⟩] false
abbrev c18_2 : AC := .reg [⟨(some 5), .mv (.t 0), none⟩,
  ⟨(some 6), .mv (.t 1), none⟩,
  ⟨(some 7), .call 32 [(.t 5), (.t 6)], none⟩,
  ⟨(some 8), .bin .geq (.t 7) (.k (.I 0)), none⟩,
  ⟨(some 4), .mv (.t 8), none⟩] false
abbrev c18_3 : AC := .seq c18_2 .ret
abbrev c18_4 : AC := .seq c18_1 c18_3
abbrev c18 : AC := c18_4
theorem code18 : fnCode Try.prog 18 = some (c18, [4], 9) := by kernel_rfl
/- coinage/consecutive.walk -/
abbrev c36_1 : AC := .reg [⟨(some 10), .mv (.k (.B false)), none⟩] false
abbrev c36_2 : AC := .reg [⟨(some 16), .mv (.t 2), none⟩,
  ⟨(some 17), .len (.t 16), none⟩,
  ⟨(some 18), .mv (.t 0), none⟩,
  ⟨(some 19), .bin .eql (.t 17) (.t 18), none⟩] false
abbrev c36_3 : AC := .reg [⟨(some 20), .mv (.t 4), none⟩,
  ⟨(some 21), .mv (.t 2), none⟩,
  ⟨(some 22), .callv (.t 20) [(.t 21)], none⟩,
  ⟨(some 10), .mv (.t 22), none⟩] false
abbrev c36_4 : AC := .seq c36_3 .ret
abbrev c36_5 : AC := .cond (.t 19) c36_4 .skip
abbrev c36_6 : AC := .seq c36_2 c36_5
abbrev c36_7 : AC := .reg [⟨(some 23), .mv (.t 0), none⟩,
  ⟨(some 24), .mv (.k (.I 0)), none⟩] false
abbrev c36_8 : AC := .reg [⟨(some 25), .bin .lss (.t 24) (.t 23), none⟩] false
abbrev c36_9 : AC := .cond (.t 25) .skip (.exit 0)
abbrev c36_10 : AC := .reg [⟨(some 26), .mv (.t 24), none⟩,
  ⟨(some 11), .mv (.t 26), none⟩] false
abbrev c36_11 : AC := .reg [⟨(some 27), .mv (.t 2), none⟩,
  ⟨(some 28), .mv (.t 11), none⟩,
  ⟨(some 29), .call 18 [(.t 27), (.t 28)], none⟩] false
abbrev c36_12 : AC := .cond (.t 29) (.exit 1) .skip
abbrev c36_13 : AC := .seq c36_11 c36_12
abbrev c36_14 : AC := .reg [⟨(some 30), .mv (.t 3), none⟩,
  ⟨(some 31), .call 53 [(.t 30)], none⟩,
  ⟨(some 12), .mv (.t 31), none⟩,
  ⟨(some 13), .mv (.k (.B true)), none⟩] false
abbrev c36_15 : AC := .reg [⟨(some 32), .mv (.t 1), none⟩,
  ⟨(some 33), .len (.t 32), none⟩,
  ⟨(some 34), .mv (.k (.I 0)), none⟩] false
abbrev c36_16 : AC := .reg [⟨(some 35), .bin .lss (.t 34) (.t 33), none⟩] false
abbrev c36_17 : AC := .cond (.t 35) .skip (.exit 2)
abbrev c36_18 : AC := .reg [⟨(some 36), .mv (.t 34), none⟩,
  ⟨(some 37), .iad 1 (.t 32) (.t 34), none⟩,
  ⟨(some 38), .ld none (.t 37), none⟩,
  ⟨(some 14), .mv (.t 36), none⟩,
  ⟨(some 15), .mv (.t 38), none⟩] false
abbrev c36_19 : AC := .reg [⟨(some 39), .mv (.t 15), none⟩,
  ⟨(some 40), .mv (.t 11), none⟩,
  ⟨(some 41), .call 18 [(.t 39), (.t 40)], none⟩] false
abbrev c36_20 : AC := .reg [⟨(some 42), .mv (.t 12), none⟩,
  ⟨(some 43), .mv (.t 14), none⟩,
  ⟨(some 44), .iad 1 (.t 42) (.t 43), none⟩,
  ⟨(some 45), .ld none (.t 44), none⟩,
  ⟨(some 46), .bin .sub (.t 45) (.k (.I 1)), none⟩,
  ⟨(some 47), .iad 1 (.t 42) (.t 43), none⟩,
  ⟨none, .st none (.t 47) (.t 46), none⟩] false
abbrev c36_21 : AC := .reg [⟨(some 48), .mv (.t 3), none⟩,
  ⟨(some 49), .mv (.t 14), none⟩,
  ⟨(some 50), .iad 1 (.t 48) (.t 49), none⟩,
  ⟨(some 51), .ld none (.t 50), none⟩,
  ⟨(some 52), .bin .gtr (.t 51) (.k (.I 0)), none⟩,
  ⟨(some 53), .mv (.t 52), none⟩,
  ⟨(some 54), .mv (.t 3), (some (53, true))⟩,
  ⟨(some 55), .mv (.t 14), (some (53, true))⟩,
  ⟨(some 56), .iad 1 (.t 54) (.t 55), (some (53, true))⟩,
  ⟨(some 57), .ld none (.t 56), (some (53, true))⟩,
  ⟨(some 58), .mv (.t 15), (some (53, true))⟩,
  ⟨(some 59), .len (.t 58), (some (53, true))⟩,
  ⟨(some 60), .bin .lss (.t 57) (.t 59), (some (53, true))⟩,
  ⟨(some 61), .pick (.t 53) (.t 60) (.k (.B false)), none⟩] false
abbrev c36_22 : AC := .reg [⟨(some 13), .mv (.k (.B false)), none⟩] false
abbrev c36_23 : AC := .cond (.t 61) c36_22 .skip
abbrev c36_24 : AC := .seq c36_21 c36_23
abbrev c36_25 : AC := .cond (.t 41) c36_20 c36_24
abbrev c36_26 : AC := .seq c36_19 c36_25
abbrev c36_27 : AC := .seq c36_18 c36_26
abbrev c36_28 : AC := .block 3 c36_27
abbrev c36_29 : AC := .reg [⟨(some 62), .bin .add (.t 34) (.k (.I 1)), none⟩,
  ⟨(some 34), .mv (.t 62), none⟩] false
abbrev c36_30 : AC := .seq c36_28 c36_29
abbrev c36_31 : AC := .seq c36_17 c36_30
abbrev c36_32 : AC := .seq c36_16 c36_31
abbrev c36_33 : AC := .loop c36_32
abbrev c36_34 : AC := .block 2 c36_33
abbrev c36_35 : AC := .seq c36_15 c36_34
abbrev c36_36 : AC := .reg [⟨(some 63), .mv (.t 13), none⟩,
  ⟨(some 64), .mv (.t 63), none⟩,
  ⟨(some 65), .mv (.t 0), (some (64, true))⟩,
  ⟨(some 66), .mv (.t 1), (some (64, true))⟩,
  ⟨(some 67), .mv (.t 2), (some (64, true))⟩,
  ⟨(some 68), .call 53 [(.t 67)], (some (64, true))⟩,
  ⟨(some 69), .mv (.t 11), (some (64, true))⟩,
  ⟨(some 70), .bslice 3 1 [(.t 69)], (some (64, true))⟩,
  ⟨(some 71), .app 3 1 8 (.t 68) (.t 70), (some (64, true))⟩,
  ⟨(some 72), .mv (.t 12), (some (64, true))⟩,
  ⟨(some 73), .mv (.t 4), (some (64, true))⟩,
  ⟨(some 74), .call 36 [(.t 65), (.t 66), (.t 71), (.t 72), (.t 73)], (some (64, true))⟩,
  ⟨(some 75), .not (.t 74), (some (64, true))⟩,
  ⟨(some 76), .pick (.t 64) (.t 75) (.k (.B false)), none⟩] false
abbrev c36_37 : AC := .reg [⟨(some 10), .mv (.k (.B false)), none⟩] false
abbrev c36_38 : AC := .seq c36_37 .ret
abbrev c36_39 : AC := .cond (.t 76) c36_38 .skip
abbrev c36_40 : AC := .seq c36_36 c36_39
abbrev c36_41 : AC := .seq c36_35 c36_40
abbrev c36_42 : AC := .seq c36_14 c36_41
abbrev c36_43 : AC := .seq c36_13 c36_42
abbrev c36_44 : AC := .seq c36_10 c36_43
abbrev c36_45 : AC := .block 1 c36_44
abbrev c36_46 : AC := .reg [⟨(some 77), .bin .add (.t 24) (.k (.I 1)), none⟩,
  ⟨(some 24), .mv (.t 77), none⟩] false
abbrev c36_47 : AC := .seq c36_45 c36_46
abbrev c36_48 : AC := .seq c36_9 c36_47
abbrev c36_49 : AC := .seq c36_8 c36_48
abbrev c36_50 : AC := .loop c36_49
abbrev c36_51 : AC := .block 0 c36_50
abbrev c36_52 : AC := .seq c36_7 c36_51
abbrev c36_53 : AC := .reg [⟨(some 10), .mv (.k (.B true)), none⟩] false
abbrev c36_54 : AC := .seq c36_53 .ret
abbrev c36_55 : AC := .seq c36_52 c36_54
abbrev c36_56 : AC := .seq c36_6 c36_55
abbrev c36_57 : AC := .seq c36_1 c36_56
abbrev c36 : AC := c36_57
theorem code36 : fnCode Try.prog 36 = some (c36, [10], 78) := by kernel_rfl

end Go.Proofs.Ytddhinbiahcjlaa

