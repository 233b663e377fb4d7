/-
  Lemmas for the proof: no statement of its own.
-/
import Derived.Test.YtgldpbghbkoolaaProg
import Derived.Test.YtgldpbghbkoolaaAlD
import Derived.KernelRfl
set_option linter.unusedVariables false
set_option linter.unusedSimpArgs false
open Go Go.AL
namespace Go.Proofs.Ytgldpbghbkoolaa
/- coinage/coinagebase.Ints -/
abbrev c16_1 : AC := .reg [⟨(some 4), .mv (.k (.B false)), none⟩] false
abbrev c16_2 : AC := .reg [⟨(some 6), .mv (.t 0), none⟩,
  ⟨(some 7), .len (.t 6), none⟩,
  ⟨(some 8), .mv (.t 1), none⟩,
  ⟨(some 9), .len (.t 8), none⟩,
  ⟨(some 10), .bin .neq (.t 7) (.t 9), none⟩] false
abbrev c16_3 : AC := .reg [⟨(some 4), .mv (.k (.B false)), none⟩] false
abbrev c16_4 : AC := .seq c16_3 .ret
abbrev c16_5 : AC := .cond (.t 10) c16_4 .skip
abbrev c16_6 : AC := .seq c16_2 c16_5
abbrev c16_7 : AC := .reg [⟨(some 5), .mv (.k (.I 0)), none⟩] false
abbrev c16_8 : AC := .reg [⟨(some 11), .mv (.t 5), none⟩,
  ⟨(some 12), .mv (.t 0), none⟩,
  ⟨(some 13), .len (.t 12), none⟩,
  ⟨(some 14), .bin .lss (.t 11) (.t 13), none⟩] false
abbrev c16_9 : AC := .cond (.t 14) .skip (.exit 0)
abbrev c16_10 : AC := .seq c16_8 c16_9
abbrev c16_11 : AC := .regD [(⟨(some 17), .mv (.t 0), none⟩, [0]),
  (⟨(some 18), .mv (.t 5), none⟩, [5]),
  (⟨(some 19), .iad 1 (.t 17) (.t 18), none⟩, [17, 18]),
  (⟨(some 20), .ld none (.t 19), none⟩, [19]),
  (⟨(some 21), .mv (.t 1), none⟩, [1]),
  (⟨(some 22), .mv (.t 5), none⟩, [5]),
  (⟨(some 23), .iad 1 (.t 21) (.t 22), none⟩, [21, 22]),
  (⟨(some 24), .ld none (.t 23), none⟩, [23]),
  (⟨(some 25), .bin .neq (.t 20) (.t 24), none⟩, [20, 24])]
abbrev c16_12 : AC := .reg [⟨(some 4), .mv (.k (.B false)), none⟩] false
abbrev c16_13 : AC := .seq c16_12 .ret
abbrev c16_14 : AC := .cond (.t 25) c16_13 .skip
abbrev c16_15 : AC := .seq c16_11 c16_14
abbrev c16_16 : AC := .block 1 c16_15
abbrev c16_17 : AC := .reg [⟨(some 15), .mv (.t 5), none⟩,
  ⟨(some 16), .bin .add (.t 15) (.k (.I 1)), none⟩,
  ⟨(some 5), .mv (.t 16), none⟩] false
abbrev c16_18 : AC := .seq c16_16 c16_17
abbrev c16_19 : AC := .seq c16_10 c16_18
abbrev c16_20 : AC := .loop c16_19
abbrev c16_21 : AC := .block 0 c16_20
abbrev c16_22 : AC := .seq c16_7 c16_21
abbrev c16_23 : AC := .reg [⟨(some 4), .mv (.k (.B true)), none⟩] false
abbrev c16_24 : AC := .seq c16_23 .ret
abbrev c16_25 : AC := .seq c16_22 c16_24
abbrev c16_26 : AC := .seq c16_6 c16_25
abbrev c16_27 : AC := .seq c16_1 c16_26
abbrev c16 : AC := c16_27
theorem code16 : fnCode Try.prog 16 = some (c16, [4], 26) := by kernel_rfl
/- coinage/coinageref13.Valid -/
/- coinage/linkage.Valid -/
abbrev c20_1 : AC := .reg [⟨(some 1), .box 25 (some 3) (.t 0), none⟩,
  ⟨(some 2), .mv (.k (.B false)), none⟩] false
abbrev c20_2 : AC := .reg [⟨(some 6), .fad 0 (.t 1), none⟩,
  ⟨(some 7), .ld none (.t 6), none⟩,
  ⟨(some 8), .call 42 [(.t 7)], none⟩,
  ⟨(some 9), .not (.t 8), none⟩,
  ⟨(some 10), .mv (.t 9), none⟩,
  ⟨(some 11), .fad 1 (.t 1), (some (10, false))⟩,
  ⟨(some 12), .ld none (.t 11), (some (10, false))⟩,
  ⟨(some 13), .call 42 [(.t 12)], (some (10, false))⟩,
  ⟨(some 14), .not (.t 13), (some (10, false))⟩,
  ⟨(some 15), .pick (.t 10) (.k (.B true)) (.t 14), none⟩,
  ⟨(some 16), .mv (.t 15), none⟩,
  ⟨(some 17), .fad 2 (.t 1), (some (16, false))⟩,
  ⟨(some 18), .ld none (.t 17), (some (16, false))⟩,
  ⟨(some 19), .len (.t 18), (some (16, false))⟩,
  ⟨(some 20), .bin .gtr (.t 19) (.k (.I 64)), (some (16, false))⟩,
  ⟨(some 21), .pick (.t 16) (.k (.B true)) (.t 20), none⟩] false
abbrev c20_3 : AC := .reg [⟨(some 2), .mv (.k (.B false)), none⟩] false
abbrev c20_4 : AC := .seq c20_3 .ret
abbrev c20_5 : AC := .cond (.t 21) c20_4 .skip
abbrev c20_6 : AC := .seq c20_2 c20_5
abbrev c20_7 : AC := .reg [⟨(some 22), .fad 2 (.t 1), none⟩,
  ⟨(some 23), .ld none (.t 22), none⟩,
  ⟨(some 24), .len (.t 23), none⟩,
  ⟨(some 25), .mv (.k (.I 0)), none⟩] false
abbrev c20_8 : AC := .reg [⟨(some 26), .bin .lss (.t 25) (.t 24), none⟩] false
abbrev c20_9 : AC := .cond (.t 26) .skip (.exit 0)
abbrev c20_10 : AC := .reg [⟨(some 27), .mv (.t 25), none⟩,
  ⟨(some 28), .iad 3 (.t 23) (.t 25), none⟩,
  ⟨(some 29), .ld (some 3) (.t 28), none⟩,
  ⟨(some 4), .alloc 44 [(.I 0), (.I 0), (.I 0)], none⟩,
  ⟨(some 3), .mv (.t 27), none⟩,
  ⟨none, .st (some 3) (.t 4) (.t 29), none⟩] false
abbrev c20_11 : AC := .regD [(⟨(some 30), .fad 0 (.t 4), none⟩, [4]),
  (⟨(some 31), .ld none (.t 30), none⟩, [30]),
  (⟨(some 32), .bin .lss (.t 31) (.k (.I 1)), none⟩, [31]),
  (⟨(some 33), .mv (.t 32), none⟩, [32]),
  (⟨(some 34), .fad 0 (.t 4), (some (33, false))⟩, [4, 33]),
  (⟨(some 35), .ld none (.t 34), (some (33, false))⟩, [34, 33]),
  (⟨(some 36), .bin .gtr (.t 35) (.k (.I 9999)), (some (33, false))⟩, [35, 33]),
  (⟨(some 37), .pick (.t 33) (.k (.B true)) (.t 36), none⟩, [33, 36]),
  (⟨(some 38), .mv (.t 37), none⟩, [37]),
  (⟨(some 39), .mv (.t 3), (some (38, false))⟩, [3, 38]),
  (⟨(some 40), .bin .gtr (.t 39) (.k (.I 0)), (some (38, false))⟩, [39, 38]),
  (⟨(some 41), .mv (.t 40), (some (38, false))⟩, [40, 38]),
  (⟨(some 42), .fad 0 (.t 4), (some (41, true))⟩, [4, 41]),
  (⟨(some 43), .ld none (.t 42), (some (41, true))⟩, [42, 41]),
  (⟨(some 44), .fad 2 (.t 1), (some (41, true))⟩, [1, 41]),
  (⟨(some 45), .ld none (.t 44), (some (41, true))⟩, [44, 41]),
  (⟨(some 46), .mv (.t 3), (some (41, true))⟩, [3, 41]),
  (⟨(some 47), .bin .sub (.t 46) (.k (.I 1)), (some (41, true))⟩, [46, 41]),
  (⟨(some 48), .iad 3 (.t 45) (.t 47), (some (41, true))⟩, [45, 47, 41]),
  (⟨(some 49), .fad 0 (.t 48), (some (41, true))⟩, [48, 41]),
  (⟨(some 50), .ld none (.t 49), (some (41, true))⟩, [49, 41]),
  (⟨(some 51), .bin .leq (.t 43) (.t 50), (some (41, true))⟩, [43, 50, 41]),
  (⟨(some 52), .pick (.t 41) (.t 51) (.k (.B false)), (some (38, false))⟩, [41, 51, 38]),
  (⟨(some 53), .pick (.t 38) (.k (.B true)) (.t 52), none⟩, [38, 52]),
  (⟨(some 54), .mv (.t 53), none⟩, [53]),
  (⟨(some 55), .fad 0 (.t 1), (some (54, false))⟩, [1, 54]),
  (⟨(some 56), .ld none (.t 55), (some (54, false))⟩, [55, 54]),
  (⟨(some 57), .fad 1 (.t 4), (some (54, false))⟩, [4, 54]),
  (⟨(some 58), .ld none (.t 57), (some (54, false))⟩, [57, 54]),
  (⟨(some 59), .call 43 [(.t 56), (.t 58)], (some (54, false))⟩, [56, 58, 54]),
  (⟨(some 60), .not (.t 59), (some (54, false))⟩, [59, 54]),
  (⟨(some 61), .pick (.t 54) (.k (.B true)) (.t 60), none⟩, [54, 60]),
  (⟨(some 62), .mv (.t 61), none⟩, [61]),
  (⟨(some 63), .fad 1 (.t 1), (some (62, false))⟩, [1, 62]),
  (⟨(some 64), .ld none (.t 63), (some (62, false))⟩, [63, 62]),
  (⟨(some 65), .fad 2 (.t 4), (some (62, false))⟩, [4, 62]),
  (⟨(some 66), .ld none (.t 65), (some (62, false))⟩, [65, 62]),
  (⟨(some 67), .call 43 [(.t 64), (.t 66)], (some (62, false))⟩, [64, 66, 62]),
  (⟨(some 68), .not (.t 67), (some (62, false))⟩, [67, 62]),
  (⟨(some 69), .pick (.t 62) (.k (.B true)) (.t 68), none⟩, [62, 68])]
abbrev c20_12 : AC := .reg [⟨(some 2), .mv (.k (.B false)), none⟩] false
abbrev c20_13 : AC := .seq c20_12 .ret
abbrev c20_14 : AC := .cond (.t 69) c20_13 .skip
abbrev c20_15 : AC := .seq c20_11 c20_14
abbrev c20_16 : AC := .seq c20_10 c20_15
abbrev c20_17 : AC := .block 1 c20_16
abbrev c20_18 : AC := .reg [⟨(some 70), .bin .add (.t 25) (.k (.I 1)), none⟩,
  ⟨(some 25), .mv (.t 70), none⟩] false
abbrev c20_19 : AC := .seq c20_17 c20_18
abbrev c20_20 : AC := .seq c20_9 c20_19
abbrev c20_21 : AC := .seq c20_8 c20_20
abbrev c20_22 : AC := .loop c20_21
abbrev c20_23 : AC := .block 0 c20_22
abbrev c20_24 : AC := .seq c20_7 c20_23
abbrev c20_25 : AC := .reg [⟨(some 71), .fad 2 (.t 1), none⟩,
  ⟨(some 72), .ld none (.t 71), none⟩,
  ⟨(some 73), .call 44 [(.t 72)], none⟩,
  ⟨(some 5), .alloc 25 [(.c .nil), (.c .nil), (.c .nil)], none⟩,
  ⟨none, .st (some 3) (.t 5) (.t 73), none⟩] false
abbrev c20_26 : AC := .reg [⟨(some 74), .fad 0 (.t 5), none⟩,
  ⟨(some 75), .ld none (.t 74), none⟩,
  ⟨(some 76), .len (.t 75), none⟩,
  ⟨(some 77), .fad 0 (.t 1), none⟩,
  ⟨(some 78), .ld none (.t 77), none⟩,
  ⟨(some 79), .len (.t 78), none⟩,
  ⟨(some 80), .bin .eql (.t 76) (.t 79), none⟩,
  ⟨(some 81), .mv (.t 80), none⟩,
  ⟨(some 82), .fad 1 (.t 5), (some (81, true))⟩,
  ⟨(some 83), .ld none (.t 82), (some (81, true))⟩,
  ⟨(some 84), .len (.t 83), (some (81, true))⟩,
  ⟨(some 85), .fad 1 (.t 1), (some (81, true))⟩,
  ⟨(some 86), .ld none (.t 85), (some (81, true))⟩,
  ⟨(some 87), .len (.t 86), (some (81, true))⟩,
  ⟨(some 88), .bin .eql (.t 84) (.t 87), (some (81, true))⟩,
  ⟨(some 89), .pick (.t 81) (.t 88) (.k (.B false)), none⟩,
  ⟨(some 2), .mv (.t 89), none⟩] false
abbrev c20_27 : AC := .seq c20_26 .ret
abbrev c20_28 : AC := .seq c20_25 c20_27
abbrev c20_29 : AC := .seq c20_24 c20_28
abbrev c20_30 : AC := .seq c20_6 c20_29
abbrev c20_31 : AC := .seq c20_1 c20_30
abbrev c20 : AC := c20_31
theorem code20 : fnCode Try.prog 20 = some (c20, [2], 90) := by kernel_rfl
/- coinage/linkage.Without -/
abbrev c31_1 : AC := .reg [⟨(some 2), .box 25 (some 3) (.t 0), none⟩,
  ⟨(some 3), .box 3 none (.t 1), none⟩,
  ⟨(some 4), .alloc 25 [(.c .nil), (.c .nil), (.c .nil)], none⟩,
  ⟨(some 5), .mv (.k (.I 0)), none⟩] false
abbrev c31_2 : AC := .reg [⟨(some 7), .ld (some 3) (.t 2), none⟩,
  ⟨(some 8), .call 20 [(.t 7)], none⟩,
  ⟨(some 9), .not (.t 8), none⟩] false
abbrev c31_3 : AC := .reg [⟨(some 10), .build [(.c .nil), (.c .nil), (.c .nil)] [], none⟩,
  ⟨none, .st (some 3) (.t 4) (.t 10), none⟩,
  ⟨(some 5), .mv (.k (.I 1)), none⟩] false
abbrev c31_4 : AC := .seq c31_3 .ret
abbrev c31_5 : AC := .cond (.t 9) c31_4 .skip
abbrev c31_6 : AC := .seq c31_2 c31_5
abbrev c31_7 : AC := .reg [⟨(some 11), .fad 2 (.t 2), none⟩,
  ⟨(some 12), .ld none (.t 11), none⟩,
  ⟨(some 13), .call 54 [(.t 12)], none⟩,
  ⟨(some 14), .mkfn 55 [(.t 3)], none⟩,
  ⟨(some 15), .call 53 [(.t 13), (.t 14)], none⟩,
  ⟨(some 6), .mv (.t 15), none⟩] false
abbrev c31_8 : AC := .reg [⟨(some 16), .mv (.t 6), none⟩,
  ⟨(some 17), .len (.t 16), none⟩,
  ⟨(some 18), .fad 2 (.t 2), none⟩,
  ⟨(some 19), .ld none (.t 18), none⟩,
  ⟨(some 20), .len (.t 19), none⟩,
  ⟨(some 21), .bin .eql (.t 17) (.t 20), none⟩] false
abbrev c31_9 : AC := .reg [⟨(some 22), .build [(.c .nil), (.c .nil), (.c .nil)] [], none⟩,
  ⟨none, .st (some 3) (.t 4) (.t 22), none⟩,
  ⟨(some 5), .mv (.k (.I 7)), none⟩] false
abbrev c31_10 : AC := .seq c31_9 .ret
abbrev c31_11 : AC := .cond (.t 21) c31_10 .skip
abbrev c31_12 : AC := .seq c31_8 c31_11
abbrev c31_13 : AC := .reg [⟨(some 23), .mv (.t 6), none⟩,
  ⟨(some 24), .call 44 [(.t 23)], none⟩,
  ⟨none, .st (some 3) (.t 4) (.t 24), none⟩,
  ⟨(some 5), .mv (.k (.I 0)), none⟩] false
abbrev c31_14 : AC := .seq c31_13 .ret
abbrev c31_15 : AC := .seq c31_12 c31_14
abbrev c31_16 : AC := .seq c31_7 c31_15
abbrev c31_17 : AC := .seq c31_6 c31_16
abbrev c31_18 : AC := .seq c31_1 c31_17
abbrev c31 : AC := c31_18
theorem code31 : fnCode Try.prog 31 = some (c31, [5000004, 5], 25) := by kernel_rfl
/- coinage/coinageref13.Dies -/
/- coinage/coinageref15.place -/
/- coinage/linkage.Dies -/
abbrev c48_1 : AC := .reg [⟨(some 1), .box 25 (some 3) (.t 0), none⟩,
  ⟨(some 2), .mv (.k (.c .nil)), none⟩,
  ⟨(some 3), .mv (.k (.I 0)), none⟩] false
abbrev c48_2 : AC := .reg [⟨(some 9), .ld (some 3) (.t 1), none⟩,
  ⟨(some 10), .call 20 [(.t 9)], none⟩,
  ⟨(some 11), .not (.t 10), none⟩] false
abbrev c48_3 : AC := .reg [⟨(some 2), .mv (.k (.c .nil)), none⟩,
  ⟨(some 3), .mv (.k (.I 1)), none⟩] false
abbrev c48_4 : AC := .seq c48_3 .ret
abbrev c48_5 : AC := .cond (.t 11) c48_4 .skip
abbrev c48_6 : AC := .seq c48_2 c48_5
abbrev c48_7 : AC := .reg [⟨(some 4), .mv (.k (.c .nil)), none⟩] false
abbrev c48_8 : AC := .reg [⟨(some 12), .fad 0 (.t 1), none⟩,
  ⟨(some 13), .ld none (.t 12), none⟩,
  ⟨(some 14), .len (.t 13), none⟩,
  ⟨(some 15), .mv (.k (.I 0)), none⟩] false
abbrev c48_9 : AC := .reg [⟨(some 16), .bin .lss (.t 15) (.t 14), none⟩] false
abbrev c48_10 : AC := .cond (.t 16) .skip (.exit 0)
abbrev c48_11 : AC := .reg [⟨(some 17), .iad 1 (.t 13) (.t 15), none⟩,
  ⟨(some 18), .ld none (.t 17), none⟩,
  ⟨(some 6), .mv (.t 18), none⟩] false
abbrev c48_12 : AC := .reg [⟨(some 19), .mv (.t 4), none⟩,
  ⟨(some 20), .mv (.t 6), none⟩,
  ⟨(some 21), .build [(.I 0), (.I 0)] [(0, 1, (.k (.I 0))), (1, 1, (.t 20))], none⟩,
  ⟨(some 22), .bslice 27 2 [(.t 21)], none⟩,
  ⟨(some 23), .app 27 2 16 (.t 19) (.t 22), none⟩,
  ⟨(some 4), .mv (.t 23), none⟩] false
abbrev c48_13 : AC := .seq c48_11 c48_12
abbrev c48_14 : AC := .block 1 c48_13
abbrev c48_15 : AC := .reg [⟨(some 24), .bin .add (.t 15) (.k (.I 1)), none⟩,
  ⟨(some 15), .mv (.t 24), none⟩] false
abbrev c48_16 : AC := .seq c48_14 c48_15
abbrev c48_17 : AC := .seq c48_10 c48_16
abbrev c48_18 : AC := .seq c48_9 c48_17
abbrev c48_19 : AC := .loop c48_18
abbrev c48_20 : AC := .block 0 c48_19
abbrev c48_21 : AC := .seq c48_8 c48_20
abbrev c48_22 : AC := .reg [⟨(some 25), .fad 1 (.t 1), none⟩,
  ⟨(some 26), .ld none (.t 25), none⟩,
  ⟨(some 27), .len (.t 26), none⟩,
  ⟨(some 28), .mv (.k (.I 0)), none⟩] false
abbrev c48_23 : AC := .reg [⟨(some 29), .bin .lss (.t 28) (.t 27), none⟩] false
abbrev c48_24 : AC := .cond (.t 29) .skip (.exit 2)
abbrev c48_25 : AC := .reg [⟨(some 30), .iad 1 (.t 26) (.t 28), none⟩,
  ⟨(some 31), .ld none (.t 30), none⟩,
  ⟨(some 8), .mv (.t 31), none⟩] false
abbrev c48_26 : AC := .reg [⟨(some 32), .mv (.t 4), none⟩,
  ⟨(some 33), .mv (.t 8), none⟩,
  ⟨(some 34), .build [(.I 0), (.I 0)] [(0, 1, (.k (.I 1))), (1, 1, (.t 33))], none⟩,
  ⟨(some 35), .bslice 27 2 [(.t 34)], none⟩,
  ⟨(some 36), .app 27 2 16 (.t 32) (.t 35), none⟩,
  ⟨(some 4), .mv (.t 36), none⟩] false
abbrev c48_27 : AC := .seq c48_25 c48_26
abbrev c48_28 : AC := .block 3 c48_27
abbrev c48_29 : AC := .reg [⟨(some 37), .bin .add (.t 28) (.k (.I 1)), none⟩,
  ⟨(some 28), .mv (.t 37), none⟩] false
abbrev c48_30 : AC := .seq c48_28 c48_29
abbrev c48_31 : AC := .seq c48_24 c48_30
abbrev c48_32 : AC := .seq c48_23 c48_31
abbrev c48_33 : AC := .loop c48_32
abbrev c48_34 : AC := .block 2 c48_33
abbrev c48_35 : AC := .seq c48_22 c48_34
abbrev c48_36 : AC := .reg [⟨(some 38), .mv (.t 4), none⟩,
  ⟨(some 2), .mv (.t 38), none⟩,
  ⟨(some 3), .mv (.k (.I 0)), none⟩] false
abbrev c48_37 : AC := .seq c48_36 .ret
abbrev c48_38 : AC := .seq c48_35 c48_37
abbrev c48_39 : AC := .seq c48_21 c48_38
abbrev c48_40 : AC := .seq c48_7 c48_39
abbrev c48_41 : AC := .seq c48_6 c48_40
abbrev c48_42 : AC := .seq c48_1 c48_41
abbrev c48 : AC := c48_42
theorem code48 : fnCode Try.prog 48 = some (c48, [2, 3], 39) := by kernel_rfl
/- coinage/coinagebase.Dies -/
/- coinage/coinagebase.Graph -/
/- coinage/linkage.numbers -/
abbrev c42_1 : AC := .reg [⟨(some 2), .mv (.k (.B false)), none⟩] false
abbrev c42_2 : AC := .reg [⟨(some 5), .mv (.t 0), none⟩,
  ⟨(some 6), .len (.t 5), none⟩,
  ⟨(some 7), .mv (.k (.I 0)), none⟩] false
abbrev c42_3 : AC := .reg [⟨(some 8), .bin .lss (.t 7) (.t 6), none⟩] false
abbrev c42_4 : AC := .cond (.t 8) .skip (.exit 0)
abbrev c42_5 : AC := .reg [⟨(some 9), .mv (.t 7), none⟩,
  ⟨(some 10), .iad 1 (.t 5) (.t 7), none⟩,
  ⟨(some 11), .ld none (.t 10), none⟩,
  ⟨(some 3), .mv (.t 9), none⟩,
  ⟨(some 4), .mv (.t 11), none⟩] false
abbrev c42_6 : AC := .reg [⟨(some 12), .mv (.t 4), none⟩,
  ⟨(some 13), .bin .lss (.t 12) (.k (.I 1)), none⟩,
  ⟨(some 14), .mv (.t 13), none⟩,
  ⟨(some 15), .mv (.t 4), (some (14, false))⟩,
  ⟨(some 16), .bin .gtr (.t 15) (.k (.I 999)), (some (14, false))⟩,
  ⟨(some 17), .pick (.t 14) (.k (.B true)) (.t 16), none⟩,
  ⟨(some 18), .mv (.t 17), none⟩,
  ⟨(some 19), .mv (.t 3), (some (18, false))⟩,
  ⟨(some 20), .bin .gtr (.t 19) (.k (.I 0)), (some (18, false))⟩,
  ⟨(some 21), .mv (.t 20), (some (18, false))⟩,
  ⟨(some 22), .mv (.t 4), (some (21, true))⟩,
  ⟨(some 23), .mv (.t 0), (some (21, true))⟩,
  ⟨(some 24), .mv (.t 3), (some (21, true))⟩,
  ⟨(some 25), .bin .sub (.t 24) (.k (.I 1)), (some (21, true))⟩,
  ⟨(some 26), .iad 1 (.t 23) (.t 25), (some (21, true))⟩,
  ⟨(some 27), .ld none (.t 26), (some (21, true))⟩,
  ⟨(some 28), .bin .leq (.t 22) (.t 27), (some (21, true))⟩,
  ⟨(some 29), .pick (.t 21) (.t 28) (.k (.B false)), (some (18, false))⟩,
  ⟨(some 30), .pick (.t 18) (.k (.B true)) (.t 29), none⟩] false
abbrev c42_7 : AC := .reg [⟨(some 2), .mv (.k (.B false)), none⟩] false
abbrev c42_8 : AC := .seq c42_7 .ret
abbrev c42_9 : AC := .cond (.t 30) c42_8 .skip
abbrev c42_10 : AC := .seq c42_6 c42_9
abbrev c42_11 : AC := .seq c42_5 c42_10
abbrev c42_12 : AC := .block 1 c42_11
abbrev c42_13 : AC := .reg [⟨(some 31), .bin .add (.t 7) (.k (.I 1)), none⟩,
  ⟨(some 7), .mv (.t 31), none⟩] false
abbrev c42_14 : AC := .seq c42_12 c42_13
abbrev c42_15 : AC := .seq c42_4 c42_14
abbrev c42_16 : AC := .seq c42_3 c42_15
abbrev c42_17 : AC := .loop c42_16
abbrev c42_18 : AC := .block 0 c42_17
abbrev c42_19 : AC := .seq c42_2 c42_18
abbrev c42_20 : AC := .reg [⟨(some 32), .mv (.t 0), none⟩,
  ⟨(some 33), .len (.t 32), none⟩,
  ⟨(some 34), .bin .leq (.t 33) (.k (.I 32)), none⟩,
  ⟨(some 2), .mv (.t 34), none⟩] false
abbrev c42_21 : AC := .seq c42_20 .ret
abbrev c42_22 : AC := .seq c42_19 c42_21
abbrev c42_23 : AC := .seq c42_1 c42_22
abbrev c42 : AC := c42_23
theorem code42 : fnCode Try.prog 42 = some (c42, [2], 35) := by kernel_rfl
/- coinage/linkage.has -/
abbrev c43_1 : AC := .reg [⟨(some 4), .mv (.k (.B false)), none⟩] false
abbrev c43_2 : AC := .reg [⟨(some 8), .mv (.t 0), none⟩,
  ⟨(some 9), .mv (.t 1), none⟩,
  ⟨(some 10), .call 57 [(.t 8), (.t 9)], none⟩,
  ⟨(some 7), .mv (.t 10), none⟩,
  ⟨(some 11), .ext (.t 7) 0, none⟩,
  ⟨(some 12), .ext (.t 7) 1, none⟩,
  ⟨(some 5), .mv (.t 11), none⟩,
  ⟨(some 6), .mv (.t 12), none⟩] false
abbrev c43_3 : AC := .reg [⟨(some 13), .mv (.t 6), none⟩,
  ⟨(some 4), .mv (.t 13), none⟩] false
abbrev c43_4 : AC := .seq c43_3 .ret
abbrev c43_5 : AC := .seq c43_2 c43_4
abbrev c43_6 : AC := .seq c43_1 c43_5
abbrev c43 : AC := c43_6
theorem code43 : fnCode Try.prog 43 = some (c43, [4], 14) := by kernel_rfl
/- coinage/linkage.with -/
abbrev c44_1 : AC := .reg [⟨(some 2), .alloc 25 [(.c .nil), (.c .nil), (.c .nil)], none⟩] false
abbrev c44_2 : AC := .reg [⟨(some 6), .mv (.t 0), none⟩,
  ⟨(some 7), .build [(.c .nil), (.c .nil), (.c .nil)] [(2, 1, (.t 6))], none⟩,
  ⟨(some 3), .alloc 25 [(.c .nil), (.c .nil), (.c .nil)], none⟩,
  ⟨none, .st (some 3) (.t 3) (.t 7), none⟩] false
abbrev c44_3 : AC := .reg [⟨(some 8), .mv (.t 0), none⟩,
  ⟨(some 9), .len (.t 8), none⟩,
  ⟨(some 10), .mv (.k (.I 0)), none⟩] false
abbrev c44_4 : AC := .reg [⟨(some 11), .bin .lss (.t 10) (.t 9), none⟩] false
abbrev c44_5 : AC := .cond (.t 11) .skip (.exit 0)
abbrev c44_6 : AC := .reg [⟨(some 12), .iad 3 (.t 8) (.t 10), none⟩,
  ⟨(some 13), .ld (some 3) (.t 12), none⟩,
  ⟨(some 5), .alloc 44 [(.I 0), (.I 0), (.I 0)], none⟩,
  ⟨none, .st (some 3) (.t 5) (.t 13), none⟩] false
def c44_7L : List AP := [⟨(some 14), .fad 0 (.t 3), none⟩,
  ⟨(some 15), .ld none (.t 14), none⟩,
  ⟨(some 16), .fad 1 (.t 5), none⟩,
  ⟨(some 17), .ld none (.t 16), none⟩,
  ⟨(some 18), .bslice 3 1 [(.t 17)], none⟩,
  ⟨(some 19), .app 3 1 8 (.t 15) (.t 18), none⟩,
  ⟨(some 20), .fad 1 (.t 3), none⟩,
  ⟨(some 21), .ld none (.t 20), none⟩,
  ⟨(some 22), .fad 2 (.t 5), none⟩,
  ⟨(some 23), .ld none (.t 22), none⟩,
  ⟨(some 24), .bslice 3 1 [(.t 23)], none⟩,
  ⟨(some 25), .app 3 1 8 (.t 21) (.t 24), none⟩,
  ⟨(some 26), .fad 0 (.t 3), none⟩,
  ⟨none, .st none (.t 26) (.t 19), none⟩,
  ⟨(some 27), .fad 1 (.t 3), none⟩,
  ⟨none, .st none (.t 27) (.t 25), none⟩]
abbrev c44_7 : AC := .regG c44_7L [0, 1, 0, 4, 8, 18, 0, 64, 0, 256, 512, 1184, 255, 6399, 16383, 32767] [0, 1, 0, 4, 8, 18, 0, 64, 0, 256, 512, 1152, 0, 4128, 0, 18432]
abbrev c44_8 : AC := .seq c44_6 c44_7
abbrev c44_9 : AC := .block 1 c44_8
abbrev c44_10 : AC := .reg [⟨(some 28), .bin .add (.t 10) (.k (.I 1)), none⟩,
  ⟨(some 10), .mv (.t 28), none⟩] false
abbrev c44_11 : AC := .seq c44_9 c44_10
abbrev c44_12 : AC := .seq c44_5 c44_11
abbrev c44_13 : AC := .seq c44_4 c44_12
abbrev c44_14 : AC := .loop c44_13
abbrev c44_15 : AC := .block 0 c44_14
abbrev c44_16 : AC := .seq c44_3 c44_15
abbrev c44_17 : AC := .reg [⟨(some 29), .fad 0 (.t 3), none⟩,
  ⟨(some 30), .ld none (.t 29), none⟩,
  ⟨(some 31), .call 61 [(.t 30)], none⟩] false
abbrev c44_18 : AC := .reg [⟨(some 32), .fad 1 (.t 3), none⟩,
  ⟨(some 33), .ld none (.t 32), none⟩,
  ⟨(some 34), .call 61 [(.t 33)], none⟩] false
abbrev c44_19 : AC := .regX (.first ⟨(some 35), .fad 0 (.t 3), none⟩
  (.first ⟨(some 38), .fad 1 (.t 3), none⟩
  (.fork ⟨(some 36), .ld none (.t 35), none⟩
  (.fork ⟨(some 37), .call 62 [(.t 36)], none⟩
  (.fork ⟨(some 39), .ld none (.t 38), none⟩
  (.first ⟨(some 41), .fad 0 (.t 3), none⟩
  (.fork ⟨(some 40), .call 62 [(.t 39)], none⟩
  (.fork ⟨none, .st none (.t 41) (.t 37), none⟩
  (.first ⟨(some 42), .fad 1 (.t 3), none⟩
  (.fork ⟨none, .st none (.t 42) (.t 40), none⟩
  .done
  .nope))
  .nope)
  .nope))
  .nope)
  (.fork ⟨(some 39), .ld none (.t 38), none⟩
  (.fork ⟨(some 37), .call 62 [(.t 36)], none⟩
  (.first ⟨(some 41), .fad 0 (.t 3), none⟩
  (.fork ⟨(some 40), .call 62 [(.t 39)], none⟩
  (.fork ⟨none, .st none (.t 41) (.t 37), none⟩
  (.first ⟨(some 42), .fad 1 (.t 3), none⟩
  (.fork ⟨none, .st none (.t 42) (.t 40), none⟩
  .done
  .nope))
  .nope)
  .nope))
  .nope)
  .nope))
  (.fork ⟨(some 39), .ld none (.t 38), none⟩
  (.fork ⟨(some 36), .ld none (.t 35), none⟩
  (.fork ⟨(some 37), .call 62 [(.t 36)], none⟩
  (.first ⟨(some 41), .fad 0 (.t 3), none⟩
  (.fork ⟨(some 40), .call 62 [(.t 39)], none⟩
  (.fork ⟨none, .st none (.t 41) (.t 37), none⟩
  (.first ⟨(some 42), .fad 1 (.t 3), none⟩
  (.fork ⟨none, .st none (.t 42) (.t 40), none⟩
  .done
  .nope))
  .nope)
  .nope))
  .nope)
  .nope)
  .nope))))
abbrev c44_20 : AC := .reg [⟨(some 43), .ld (some 3) (.t 3), none⟩,
  ⟨none, .st (some 3) (.t 2) (.t 43), none⟩] false
abbrev c44_21 : AC := .seq c44_20 .ret
abbrev c44_22 : AC := .seq c44_19 c44_21
abbrev c44_23 : AC := .seq c44_18 c44_22
abbrev c44_24 : AC := .seq c44_17 c44_23
abbrev c44_25 : AC := .seq c44_16 c44_24
abbrev c44_26 : AC := .seq c44_2 c44_25
abbrev c44_27 : AC := .seq c44_1 c44_26
abbrev c44 : AC := c44_27
theorem code44 : fnCode Try.prog 44 = some (c44, [5000002], 44) := by kernel_rfl
/- slices.Clone[[]coinage/api.Link,coinage/api.Link] -/
abbrev c54_1 : AC := .reg [⟨(some 2), .mv (.k (.c .nil)), none⟩] false
abbrev c54_2 : AC := .reg [⟨(some 3), .mv (.t 0), none⟩,
  ⟨(some 4), .isnil false (.t 3), none⟩] false
abbrev c54_3 : AC := .reg [⟨(some 2), .mv (.k (.c .nil)), none⟩] false
abbrev c54_4 : AC := .seq c54_3 .ret
abbrev c54_5 : AC := .cond (.t 4) c54_4 .skip
abbrev c54_6 : AC := .seq c54_2 c54_5
abbrev c54_7 : AC := .reg [⟨(some 5), .bslice 44 3 [], none⟩,
  ⟨(some 6), .mv (.t 0), none⟩,
  ⟨(some 7), .app 44 3 24 (.t 5) (.t 6), none⟩,
  ⟨(some 2), .mv (.t 7), none⟩] false
abbrev c54_8 : AC := .seq c54_7 .ret
abbrev c54_9 : AC := .seq c54_6 c54_8
abbrev c54_10 : AC := .seq c54_1 c54_9
abbrev c54 : AC := c54_10
theorem code54 : fnCode Try.prog 54 = some (c54, [2], 8) := by kernel_rfl
/- coinage/linkage.Without$1 -/
abbrev c55_1 : AC := .reg [⟨(some 2), .box 44 (some 3) (.t 0), none⟩,
  ⟨(some 3), .mv (.k (.B false)), none⟩] false
abbrev c55_2 : AC := .reg [⟨(some 4), .fad 0 (.t 2), none⟩,
  ⟨(some 5), .ld none (.t 4), none⟩,
  ⟨(some 6), .ld none (.t 1), none⟩,
  ⟨(some 7), .bin .eql (.t 5) (.t 6), none⟩,
  ⟨(some 3), .mv (.t 7), none⟩] false
abbrev c55_3 : AC := .seq c55_2 .ret
abbrev c55_4 : AC := .seq c55_1 c55_3
abbrev c55 : AC := c55_4
theorem code55 : fnCode Try.prog 55 = some (c55, [3], 8) := by kernel_rfl
/- coinage/coinagebase.Ascending -/
/- coinage/coinagebase.Id -/
/- coinage/coinagebase.Has -/
/- slices.BinarySearch[[]int,int] -/
abbrev c57_1 : AC := .reg [⟨(some 4), .mv (.k (.I 0)), none⟩,
  ⟨(some 5), .mv (.k (.B false)), none⟩] false
abbrev c57_2 : AC := .reg [⟨(some 10), .mv (.t 0), none⟩,
  ⟨(some 11), .len (.t 10), none⟩,
  ⟨(some 6), .mv (.t 11), none⟩] false
abbrev c57_3 : AC := .reg [⟨(some 12), .mv (.t 6), none⟩,
  ⟨(some 7), .mv (.k (.I 0)), none⟩,
  ⟨(some 8), .mv (.t 12), none⟩] false
abbrev c57_4 : AC := .reg [⟨(some 13), .mv (.t 7), none⟩,
  ⟨(some 14), .mv (.t 8), none⟩,
  ⟨(some 15), .bin .lss (.t 13) (.t 14), none⟩] false
abbrev c57_5 : AC := .cond (.t 15) .skip (.exit 0)
abbrev c57_6 : AC := .seq c57_4 c57_5
abbrev c57_7 : AC := .reg [⟨(some 16), .mv (.t 7), none⟩,
  ⟨(some 17), .mv (.t 8), none⟩,
  ⟨(some 18), .bin .add (.t 16) (.t 17), none⟩,
  ⟨(some 19), .conv .u64 (.t 18), none⟩,
  ⟨(some 20), .bin .shr (.t 19) (.k (.c (.sc (.int .u64 1)))), none⟩,
  ⟨(some 21), .conv .i64 (.t 20), none⟩,
  ⟨(some 9), .mv (.t 21), none⟩] false
abbrev c57_8 : AC := .reg [⟨(some 22), .mv (.t 0), none⟩,
  ⟨(some 23), .mv (.t 9), none⟩,
  ⟨(some 24), .iad 1 (.t 22) (.t 23), none⟩,
  ⟨(some 25), .ld none (.t 24), none⟩,
  ⟨(some 26), .mv (.t 1), none⟩,
  ⟨(some 27), .call 66 [(.t 25), (.t 26)], none⟩] false
abbrev c57_9 : AC := .reg [⟨(some 28), .mv (.t 9), none⟩,
  ⟨(some 29), .bin .add (.t 28) (.k (.I 1)), none⟩,
  ⟨(some 7), .mv (.t 29), none⟩] false
abbrev c57_10 : AC := .reg [⟨(some 30), .mv (.t 9), none⟩,
  ⟨(some 8), .mv (.t 30), none⟩] false
abbrev c57_11 : AC := .cond (.t 27) c57_9 c57_10
abbrev c57_12 : AC := .seq c57_8 c57_11
abbrev c57_13 : AC := .seq c57_7 c57_12
abbrev c57_14 : AC := .block 1 c57_13
abbrev c57_15 : AC := .seq c57_6 c57_14
abbrev c57_16 : AC := .loop c57_15
abbrev c57_17 : AC := .block 0 c57_16
abbrev c57_18 : AC := .reg [⟨(some 31), .mv (.t 7), none⟩,
  ⟨(some 32), .mv (.t 7), none⟩,
  ⟨(some 33), .mv (.t 6), none⟩,
  ⟨(some 34), .bin .lss (.t 32) (.t 33), none⟩,
  ⟨(some 35), .mv (.t 34), none⟩,
  ⟨(some 36), .mv (.t 0), (some (35, true))⟩,
  ⟨(some 37), .mv (.t 7), (some (35, true))⟩,
  ⟨(some 38), .iad 1 (.t 36) (.t 37), (some (35, true))⟩,
  ⟨(some 39), .ld none (.t 38), (some (35, true))⟩,
  ⟨(some 40), .mv (.t 1), (some (35, true))⟩,
  ⟨(some 41), .bin .eql (.t 39) (.t 40), (some (35, true))⟩,
  ⟨(some 42), .mv (.t 41), (some (35, true))⟩,
  ⟨(some 43), .mv (.t 0), (some (42, false))⟩,
  ⟨(some 44), .mv (.t 7), (some (42, false))⟩,
  ⟨(some 45), .iad 1 (.t 43) (.t 44), (some (42, false))⟩,
  ⟨(some 46), .ld none (.t 45), (some (42, false))⟩,
  ⟨(some 47), .call 67 [(.t 46)], (some (42, false))⟩,
  ⟨(some 48), .mv (.t 47), (some (42, false))⟩,
  ⟨(some 49), .mv (.t 1), (some (48, true))⟩,
  ⟨(some 50), .call 67 [(.t 49)], (some (48, true))⟩,
  ⟨(some 51), .pick (.t 48) (.t 50) (.k (.B false)), (some (42, false))⟩,
  ⟨(some 52), .pick (.t 42) (.k (.B true)) (.t 51), (some (35, true))⟩,
  ⟨(some 53), .pick (.t 35) (.t 52) (.k (.B false)), none⟩,
  ⟨(some 4), .mv (.t 31), none⟩,
  ⟨(some 5), .mv (.t 53), none⟩] false
abbrev c57_19 : AC := .seq c57_18 .ret
abbrev c57_20 : AC := .seq c57_17 c57_19
abbrev c57_21 : AC := .seq c57_3 c57_20
abbrev c57_22 : AC := .seq c57_2 c57_21
abbrev c57_23 : AC := .seq c57_1 c57_22
abbrev c57 : AC := c57_23
theorem code57 : fnCode Try.prog 57 = some (c57, [4, 5], 54) := by kernel_rfl
/- slices.IndexFunc[[]coinage/api.Link,coinage/api.Link] -/
abbrev c65_1 : AC := .reg [⟨(some 4), .mv (.k (.I 0)), none⟩] false
abbrev c65_2 : AC := .reg [⟨(some 6), .mv (.t 0), none⟩,
  ⟨(some 7), .len (.t 6), none⟩,
  ⟨(some 8), .mv (.k (.I 0)), none⟩] false
abbrev c65_3 : AC := .reg [⟨(some 9), .bin .lss (.t 8) (.t 7), none⟩] false
abbrev c65_4 : AC := .cond (.t 9) .skip (.exit 0)
abbrev c65_5 : AC := .reg [⟨(some 10), .mv (.t 8), none⟩,
  ⟨(some 5), .mv (.t 10), none⟩] false
abbrev c65_6 : AC := .reg [⟨(some 11), .mv (.t 1), none⟩,
  ⟨(some 12), .mv (.t 0), none⟩,
  ⟨(some 13), .mv (.t 5), none⟩,
  ⟨(some 14), .iad 3 (.t 12) (.t 13), none⟩,
  ⟨(some 15), .ld (some 3) (.t 14), none⟩,
  ⟨(some 16), .callv (.t 11) [(.t 15)], none⟩] false
abbrev c65_7 : AC := .reg [⟨(some 17), .mv (.t 5), none⟩,
  ⟨(some 4), .mv (.t 17), none⟩] false
abbrev c65_8 : AC := .seq c65_7 .ret
abbrev c65_9 : AC := .cond (.t 16) c65_8 .skip
abbrev c65_10 : AC := .seq c65_6 c65_9
abbrev c65_11 : AC := .seq c65_5 c65_10
abbrev c65_12 : AC := .block 1 c65_11
abbrev c65_13 : AC := .reg [⟨(some 18), .bin .add (.t 8) (.k (.I 1)), none⟩,
  ⟨(some 8), .mv (.t 18), none⟩] false
abbrev c65_14 : AC := .seq c65_12 c65_13
abbrev c65_15 : AC := .seq c65_4 c65_14
abbrev c65_16 : AC := .seq c65_3 c65_15
abbrev c65_17 : AC := .loop c65_16
abbrev c65_18 : AC := .block 0 c65_17
abbrev c65_19 : AC := .seq c65_2 c65_18
abbrev c65_20 : AC := .reg [⟨(some 4), .mv (.k (.I (-1))), none⟩] false
abbrev c65_21 : AC := .seq c65_20 .ret
abbrev c65_22 : AC := .seq c65_19 c65_21
abbrev c65_23 : AC := .seq c65_1 c65_22
abbrev c65 : AC := c65_23
theorem code65 : fnCode Try.prog 65 = some (c65, [4], 19) := by kernel_rfl
/- coinage/coinagebase.In -/
/- cmp.Less[int] -/
abbrev c66_1 : AC := .reg [⟨(some 4), .mv (.k (.B false)), none⟩] false
abbrev c66_2 : AC := .reg [⟨(some 5), .mv (.t 0), none⟩,
  ⟨(some 6), .call 71 [(.t 5)], none⟩,
  ⟨(some 7), .mv (.t 6), none⟩,
  ⟨(some 8), .mv (.t 1), (some (7, true))⟩,
  ⟨(some 9), .call 71 [(.t 8)], (some (7, true))⟩,
  ⟨(some 10), .not (.t 9), (some (7, true))⟩,
  ⟨(some 11), .pick (.t 7) (.t 10) (.k (.B false)), none⟩,
  ⟨(some 12), .mv (.t 11), none⟩,
  ⟨(some 13), .mv (.t 0), (some (12, false))⟩,
  ⟨(some 14), .mv (.t 1), (some (12, false))⟩,
  ⟨(some 15), .bin .lss (.t 13) (.t 14), (some (12, false))⟩,
  ⟨(some 16), .pick (.t 12) (.k (.B true)) (.t 15), none⟩,
  ⟨(some 4), .mv (.t 16), none⟩] false
abbrev c66_3 : AC := .seq c66_2 .ret
abbrev c66_4 : AC := .seq c66_1 c66_3
abbrev c66 : AC := c66_4
theorem code66 : fnCode Try.prog 66 = some (c66, [4], 17) := by kernel_rfl
/- slices.isNaN[int] -/
abbrev c67_1 : AC := .reg [⟨(some 2), .mv (.k (.B false)), none⟩] false
abbrev c67_2 : AC := .reg [⟨(some 3), .mv (.t 0), none⟩,
  ⟨(some 4), .mv (.t 0), none⟩,
  ⟨(some 5), .bin .neq (.t 3) (.t 4), none⟩,
  ⟨(some 2), .mv (.t 5), none⟩] false
abbrev c67_3 : AC := .seq c67_2 .ret
abbrev c67_4 : AC := .seq c67_1 c67_3
abbrev c67 : AC := c67_4
theorem code67 : fnCode Try.prog 67 = some (c67, [2], 6) := by kernel_rfl
/- slices.Index[[]coinage/api.Die,coinage/api.Die] -/
abbrev c56_1 : AC := .reg [⟨(some 3), .box 27 (some 2) (.t 1), none⟩,
  ⟨(some 4), .mv (.k (.I 0)), none⟩] false
abbrev c56_2 : AC := .reg [⟨(some 6), .mv (.t 0), none⟩,
  ⟨(some 7), .len (.t 6), none⟩,
  ⟨(some 8), .mv (.k (.I 0)), none⟩] false
abbrev c56_3 : AC := .reg [⟨(some 9), .bin .lss (.t 8) (.t 7), none⟩] false
abbrev c56_4 : AC := .cond (.t 9) .skip (.exit 0)
abbrev c56_5 : AC := .reg [⟨(some 10), .mv (.t 8), none⟩,
  ⟨(some 5), .mv (.t 10), none⟩] false
abbrev c56_6 : AC := .regD [(⟨(some 11), .ld (some 2) (.t 3), none⟩, [3]),
  (⟨(some 12), .mv (.t 0), none⟩, [0]),
  (⟨(some 13), .mv (.t 5), none⟩, [5]),
  (⟨(some 14), .iad 2 (.t 12) (.t 13), none⟩, [12, 13]),
  (⟨(some 15), .ld (some 2) (.t 14), none⟩, [14]),
  (⟨(some 16), .eqs false [false, false] (.t 11) (.t 15), none⟩, [11, 15])]
abbrev c56_7 : AC := .reg [⟨(some 17), .mv (.t 5), none⟩,
  ⟨(some 4), .mv (.t 17), none⟩] false
abbrev c56_8 : AC := .seq c56_7 .ret
abbrev c56_9 : AC := .cond (.t 16) c56_8 .skip
abbrev c56_10 : AC := .seq c56_6 c56_9
abbrev c56_11 : AC := .seq c56_5 c56_10
abbrev c56_12 : AC := .block 1 c56_11
abbrev c56_13 : AC := .reg [⟨(some 18), .bin .add (.t 8) (.k (.I 1)), none⟩,
  ⟨(some 8), .mv (.t 18), none⟩] false
abbrev c56_14 : AC := .seq c56_12 c56_13
abbrev c56_15 : AC := .seq c56_4 c56_14
abbrev c56_16 : AC := .seq c56_3 c56_15
abbrev c56_17 : AC := .loop c56_16
abbrev c56_18 : AC := .block 0 c56_17
abbrev c56_19 : AC := .seq c56_2 c56_18
abbrev c56_20 : AC := .reg [⟨(some 4), .mv (.k (.I (-1))), none⟩] false
abbrev c56_21 : AC := .seq c56_20 .ret
abbrev c56_22 : AC := .seq c56_19 c56_21
abbrev c56_23 : AC := .seq c56_1 c56_22
abbrev c56 : AC := c56_23
theorem code56 : fnCode Try.prog 56 = some (c56, [4], 19) := by kernel_rfl
/- cmp.isNaN[int] -/
abbrev c71_1 : AC := .reg [⟨(some 2), .mv (.k (.B false)), none⟩] false
abbrev c71_2 : AC := .reg [⟨(some 3), .mv (.t 0), none⟩,
  ⟨(some 4), .mv (.t 0), none⟩,
  ⟨(some 5), .bin .neq (.t 3) (.t 4), none⟩,
  ⟨(some 2), .mv (.t 5), none⟩] false
abbrev c71_3 : AC := .seq c71_2 .ret
abbrev c71_4 : AC := .seq c71_1 c71_3
abbrev c71 : AC := c71_4
theorem code71 : fnCode Try.prog 71 = some (c71, [2], 6) := by kernel_rfl

end Go.Proofs.Ytgldpbghbkoolaa

