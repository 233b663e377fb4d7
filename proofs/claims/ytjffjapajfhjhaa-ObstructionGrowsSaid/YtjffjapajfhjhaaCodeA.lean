/-
  Lemmas for the proof: no statement of its own.
-/
import Derived.Test.YtjffjapajfhjhaaProg
import Derived.Test.YtjffjapajfhjhaaAlD
import Derived.KernelRfl
set_option linter.unusedVariables false
set_option linter.unusedSimpArgs false
open Go Go.AL
namespace Go.Proofs.Ytjffjapajfhjhaa
/- coinage/coinagelaw29.ObstructionCuts -/
abbrev c3_1 : AC := .reg [⟨(some 5), .box 25 (some 2) (.t 2), none⟩,
  ⟨(some 6), .mv (.k (.B false)), none⟩] false
abbrev c3_2 : AC := .reg [⟨(some 11), .call 8 [], none⟩,
  ⟨(some 12), .not (.t 11), none⟩,
  ⟨(some 13), .mv (.t 12), none⟩,
  ⟨(some 14), .mv (.t 0), (some (13, false))⟩,
  ⟨(some 15), .mv (.t 1), (some (13, false))⟩,
  ⟨(some 16), .call 9 [(.t 14), (.t 15)], (some (13, false))⟩,
  ⟨(some 17), .not (.t 16), (some (13, false))⟩,
  ⟨(some 18), .pick (.t 13) (.k (.B true)) (.t 17), none⟩,
  ⟨(some 19), .mv (.t 18), none⟩,
  ⟨(some 20), .ld (some 2) (.t 5), (some (19, false))⟩,
  ⟨(some 21), .call 10 [(.t 20)], (some (19, false))⟩,
  ⟨(some 22), .not (.t 21), (some (19, false))⟩,
  ⟨(some 23), .pick (.t 19) (.k (.B true)) (.t 22), none⟩] false
abbrev c3_3 : AC := .reg [⟨(some 24), .call 8 [], none⟩,
  ⟨(some 6), .mv (.t 24), none⟩] false
abbrev c3_4 : AC := .seq c3_3 .ret
abbrev c3_5 : AC := .cond (.t 23) c3_4 .skip
abbrev c3_6 : AC := .seq c3_2 c3_5
abbrev c3_7 : AC := .reg [⟨(some 26), .mv (.t 0), none⟩,
  ⟨(some 27), .mv (.t 1), none⟩,
  ⟨(some 28), .fad 0 (.t 5), none⟩,
  ⟨(some 29), .ld none (.t 28), none⟩,
  ⟨(some 30), .fad 1 (.t 5), none⟩,
  ⟨(some 31), .ld none (.t 30), none⟩,
  ⟨(some 32), .call 11 [(.t 26), (.t 27), (.t 29), (.t 31)], none⟩,
  ⟨(some 25), .mv (.t 32), none⟩,
  ⟨(some 33), .ext (.t 25) 0, none⟩,
  ⟨(some 34), .ext (.t 25) 1, none⟩,
  ⟨(some 7), .mv (.t 33), none⟩,
  ⟨(some 8), .mv (.t 34), none⟩] false
abbrev c3_8 : AC := .reg [⟨(some 36), .mv (.t 0), none⟩,
  ⟨(some 37), .mv (.t 1), none⟩,
  ⟨(some 38), .fad 0 (.t 5), none⟩,
  ⟨(some 39), .ld none (.t 38), none⟩,
  ⟨(some 40), .fad 1 (.t 5), none⟩,
  ⟨(some 41), .ld none (.t 40), none⟩,
  ⟨(some 42), .call 12 [(.t 36), (.t 37), (.t 39), (.t 41)], none⟩,
  ⟨(some 35), .mv (.t 42), none⟩,
  ⟨(some 43), .ext (.t 35) 0, none⟩,
  ⟨(some 44), .ext (.t 35) 1, none⟩,
  ⟨(some 9), .mv (.t 43), none⟩,
  ⟨(some 10), .mv (.t 44), none⟩] false
abbrev c3_9 : AC := .regD [(⟨(some 45), .mv (.t 8), none⟩, [8]),
  (⟨(some 46), .mv (.t 10), none⟩, [10]),
  (⟨(some 47), .bin .eql (.t 45) (.t 46), none⟩, [45, 46]),
  (⟨(some 48), .mv (.t 47), none⟩, [47]),
  (⟨(some 49), .mv (.t 7), (some (48, true))⟩, [7, 48]),
  (⟨(some 50), .mv (.t 9), (some (48, true))⟩, [9, 48]),
  (⟨(some 51), .call 13 [(.t 49), (.t 50)], (some (48, true))⟩, [49, 50, 48]),
  (⟨(some 52), .pick (.t 48) (.t 51) (.k (.B false)), none⟩, [48, 51]),
  (⟨(some 53), .mv (.t 52), none⟩, [52]),
  (⟨(some 54), .mv (.t 0), (some (53, true))⟩, [0, 53]),
  (⟨(some 55), .mv (.t 1), (some (53, true))⟩, [1, 53]),
  (⟨(some 56), .fad 0 (.t 5), (some (53, true))⟩, [5, 53]),
  (⟨(some 57), .ld none (.t 56), (some (53, true))⟩, [56, 53]),
  (⟨(some 58), .fad 1 (.t 5), (some (53, true))⟩, [5, 53]),
  (⟨(some 59), .ld none (.t 58), (some (53, true))⟩, [58, 53]),
  (⟨(some 60), .call 14 [(.t 54), (.t 55), (.t 57), (.t 59)], (some (53, true))⟩, [54, 55, 57, 59, 53]),
  (⟨(some 61), .mv (.t 0), (some (53, true))⟩, [0, 53]),
  (⟨(some 62), .mv (.t 1), (some (53, true))⟩, [1, 53]),
  (⟨(some 63), .fad 0 (.t 5), (some (53, true))⟩, [5, 53]),
  (⟨(some 64), .ld none (.t 63), (some (53, true))⟩, [63, 53]),
  (⟨(some 65), .fad 1 (.t 5), (some (53, true))⟩, [5, 53]),
  (⟨(some 66), .ld none (.t 65), (some (53, true))⟩, [65, 53]),
  (⟨(some 67), .call 15 [(.t 61), (.t 62), (.t 64), (.t 66)], (some (53, true))⟩, [61, 62, 64, 66, 53]),
  (⟨(some 68), .beq false (.t 60) (.t 67), (some (53, true))⟩, [60, 67, 53]),
  (⟨(some 69), .pick (.t 53) (.t 68) (.k (.B false)), none⟩, [53, 68]),
  (⟨(some 70), .mv (.t 69), none⟩, [69]),
  (⟨(some 71), .mv (.t 0), (some (70, true))⟩, [0, 70]),
  (⟨(some 72), .mv (.t 1), (some (70, true))⟩, [1, 70]),
  (⟨(some 73), .fad 0 (.t 5), (some (70, true))⟩, [5, 70]),
  (⟨(some 74), .ld none (.t 73), (some (70, true))⟩, [73, 70]),
  (⟨(some 75), .fad 1 (.t 5), (some (70, true))⟩, [5, 70]),
  (⟨(some 76), .ld none (.t 75), (some (70, true))⟩, [75, 70]),
  (⟨(some 77), .call 16 [(.t 71), (.t 72), (.t 74), (.t 76)], (some (70, true))⟩, [71, 72, 74, 76, 70]),
  (⟨(some 78), .mv (.t 0), (some (70, true))⟩, [0, 70]),
  (⟨(some 79), .mv (.t 1), (some (70, true))⟩, [1, 70]),
  (⟨(some 80), .fad 0 (.t 5), (some (70, true))⟩, [5, 70]),
  (⟨(some 81), .ld none (.t 80), (some (70, true))⟩, [80, 70]),
  (⟨(some 82), .fad 1 (.t 5), (some (70, true))⟩, [5, 70]),
  (⟨(some 83), .ld none (.t 82), (some (70, true))⟩, [82, 70]),
  (⟨(some 84), .call 17 [(.t 78), (.t 79), (.t 81), (.t 83)], (some (70, true))⟩, [78, 79, 81, 83, 70]),
  (⟨(some 85), .beq false (.t 77) (.t 84), (some (70, true))⟩, [77, 84, 70]),
  (⟨(some 86), .pick (.t 70) (.t 85) (.k (.B false)), none⟩, [70, 85]),
  (⟨(some 6), .mv (.t 86), none⟩, [86])]
abbrev c3_10 : AC := .seq c3_9 .ret
abbrev c3_11 : AC := .seq c3_8 c3_10
abbrev c3_12 : AC := .seq c3_7 c3_11
abbrev c3_13 : AC := .seq c3_6 c3_12
abbrev c3_14 : AC := .seq c3_1 c3_13
abbrev c3 : AC := c3_14
theorem code3 : fnCode Try.prog 3 = some (c3, [6], 87) := by kernel_rfl
/- coinage/coinagelaw29.ObstructionGrows -/
abbrev c4_1 : AC := .reg [⟨(some 5), .box 25 (some 2) (.t 2), none⟩,
  ⟨(some 6), .mv (.k (.B false)), none⟩] false
abbrev c4_2 : AC := .reg [⟨(some 7), .call 8 [], none⟩,
  ⟨(some 8), .not (.t 7), none⟩,
  ⟨(some 9), .mv (.t 8), none⟩,
  ⟨(some 10), .mv (.t 0), (some (9, false))⟩,
  ⟨(some 11), .mv (.t 1), (some (9, false))⟩,
  ⟨(some 12), .call 9 [(.t 10), (.t 11)], (some (9, false))⟩,
  ⟨(some 13), .not (.t 12), (some (9, false))⟩,
  ⟨(some 14), .pick (.t 9) (.k (.B true)) (.t 13), none⟩,
  ⟨(some 15), .mv (.t 14), none⟩,
  ⟨(some 16), .ld (some 2) (.t 5), (some (15, false))⟩,
  ⟨(some 17), .call 10 [(.t 16)], (some (15, false))⟩,
  ⟨(some 18), .not (.t 17), (some (15, false))⟩,
  ⟨(some 19), .pick (.t 15) (.k (.B true)) (.t 18), none⟩] false
abbrev c4_3 : AC := .reg [⟨(some 20), .call 8 [], none⟩,
  ⟨(some 6), .mv (.t 20), none⟩] false
abbrev c4_4 : AC := .seq c4_3 .ret
abbrev c4_5 : AC := .cond (.t 19) c4_4 .skip
abbrev c4_6 : AC := .seq c4_2 c4_5
abbrev c4_7 : AC := .reg [⟨(some 21), .mv (.t 0), none⟩,
  ⟨(some 22), .mv (.t 1), none⟩,
  ⟨(some 23), .fad 0 (.t 5), none⟩,
  ⟨(some 24), .ld none (.t 23), none⟩,
  ⟨(some 25), .fad 1 (.t 5), none⟩,
  ⟨(some 26), .ld none (.t 25), none⟩,
  ⟨(some 27), .call 14 [(.t 21), (.t 22), (.t 24), (.t 26)], none⟩,
  ⟨(some 28), .not (.t 27), none⟩] false
abbrev c4_8 : AC := .reg [⟨(some 29), .mv (.t 0), none⟩,
  ⟨(some 30), .mv (.t 1), none⟩,
  ⟨(some 31), .fad 0 (.t 5), none⟩,
  ⟨(some 32), .ld none (.t 31), none⟩,
  ⟨(some 33), .fad 1 (.t 5), none⟩,
  ⟨(some 34), .ld none (.t 33), none⟩,
  ⟨(some 35), .call 16 [(.t 29), (.t 30), (.t 32), (.t 34)], none⟩,
  ⟨(some 36), .not (.t 35), none⟩,
  ⟨(some 6), .mv (.t 36), none⟩] false
abbrev c4_9 : AC := .seq c4_8 .ret
abbrev c4_10 : AC := .cond (.t 28) c4_9 .skip
abbrev c4_11 : AC := .seq c4_7 c4_10
abbrev c4_12 : AC := .reg [⟨(some 37), .mv (.t 0), none⟩,
  ⟨(some 38), .mv (.t 1), none⟩,
  ⟨(some 39), .call 18 [(.t 37), (.t 38)], none⟩,
  ⟨(some 40), .not (.t 39), none⟩] false
abbrev c4_13 : AC := .reg [⟨(some 6), .mv (.k (.B false)), none⟩] false
abbrev c4_14 : AC := .seq c4_13 .ret
abbrev c4_15 : AC := .cond (.t 40) c4_14 .skip
abbrev c4_16 : AC := .seq c4_12 c4_15
abbrev c4_17 : AC := .regD [(⟨(some 41), .mv (.t 0), none⟩, [0]),
  (⟨(some 42), .mv (.t 1), none⟩, [1]),
  (⟨(some 43), .mv (.t 1), none⟩, [1]),
  (⟨(some 44), .len (.t 43), none⟩, [43]),
  (⟨(some 45), .call 19 [(.t 44)], none⟩, [44]),
  (⟨(some 46), .fad 1 (.t 5), none⟩, [5]),
  (⟨(some 47), .ld none (.t 46), none⟩, [46]),
  (⟨(some 48), .call 14 [(.t 41), (.t 42), (.t 45), (.t 47)], none⟩, [41, 42, 45, 47]),
  (⟨(some 49), .mv (.t 48), none⟩, [48]),
  (⟨(some 50), .mv (.t 0), (some (49, true))⟩, [0, 49]),
  (⟨(some 51), .mv (.t 1), (some (49, true))⟩, [1, 49]),
  (⟨(some 52), .fad 0 (.t 5), (some (49, true))⟩, [5, 49]),
  (⟨(some 53), .ld none (.t 52), (some (49, true))⟩, [52, 49]),
  (⟨(some 54), .mv (.t 0), (some (49, true))⟩, [0, 49]),
  (⟨(some 55), .call 19 [(.t 54)], (some (49, true))⟩, [54, 49]),
  (⟨(some 56), .call 14 [(.t 50), (.t 51), (.t 53), (.t 55)], (some (49, true))⟩, [50, 51, 53, 55, 49]),
  (⟨(some 57), .pick (.t 49) (.t 56) (.k (.B false)), none⟩, [49, 56]),
  (⟨(some 58), .mv (.t 57), none⟩, [57]),
  (⟨(some 59), .mv (.t 0), (some (58, true))⟩, [0, 58]),
  (⟨(some 60), .mv (.t 1), (some (58, true))⟩, [1, 58]),
  (⟨(some 61), .call 20 [(.t 59), (.t 60)], (some (58, true))⟩, [59, 60, 58]),
  (⟨(some 62), .not (.t 61), (some (58, true))⟩, [61, 58]),
  (⟨(some 63), .pick (.t 58) (.t 62) (.k (.B false)), none⟩, [58, 62]),
  (⟨(some 6), .mv (.t 63), none⟩, [63])]
abbrev c4_18 : AC := .seq c4_17 .ret
abbrev c4_19 : AC := .seq c4_16 c4_18
abbrev c4_20 : AC := .seq c4_11 c4_19
abbrev c4_21 : AC := .seq c4_6 c4_20
abbrev c4_22 : AC := .seq c4_1 c4_21
abbrev c4 : AC := c4_22
theorem code4 : fnCode Try.prog 4 = some (c4, [6], 64) := by kernel_rfl
/- coinage/coinagelaw29.ObstructionSizes -/
abbrev c5_1 : AC := .reg [⟨(some 4), .mv (.k (.B false)), none⟩] false
abbrev c5_2 : AC := .reg [⟨(some 12), .call 8 [], none⟩,
  ⟨(some 13), .not (.t 12), none⟩,
  ⟨(some 14), .mv (.t 13), none⟩,
  ⟨(some 15), .mv (.t 0), (some (14, false))⟩,
  ⟨(some 16), .mv (.t 1), (some (14, false))⟩,
  ⟨(some 17), .call 9 [(.t 15), (.t 16)], (some (14, false))⟩,
  ⟨(some 18), .not (.t 17), (some (14, false))⟩,
  ⟨(some 19), .pick (.t 14) (.k (.B true)) (.t 18), none⟩] false
abbrev c5_3 : AC := .reg [⟨(some 20), .call 8 [], none⟩,
  ⟨(some 4), .mv (.t 20), none⟩] false
abbrev c5_4 : AC := .seq c5_3 .ret
abbrev c5_5 : AC := .cond (.t 19) c5_4 .skip
abbrev c5_6 : AC := .seq c5_2 c5_5
abbrev c5_7 : AC := .reg [⟨(some 22), .mv (.t 0), none⟩,
  ⟨(some 23), .mv (.t 1), none⟩,
  ⟨(some 24), .call 21 [(.t 22), (.t 23)], none⟩,
  ⟨(some 21), .mv (.t 24), none⟩,
  ⟨(some 25), .ext (.t 21) 0, none⟩,
  ⟨(some 26), .ext (.t 21) 1, none⟩,
  ⟨(some 27), .ext (.t 21) 2, none⟩,
  ⟨(some 5), .mv (.t 25), none⟩,
  ⟨(some 6), .mv (.t 26), none⟩,
  ⟨(some 7), .mv (.t 27), none⟩] false
abbrev c5_8 : AC := .reg [⟨(some 28), .mv (.t 7), none⟩,
  ⟨(some 29), .bin .neq (.t 28) (.k (.I 0)), none⟩] false
abbrev c5_9 : AC := .reg [⟨(some 30), .mv (.t 5), none⟩,
  ⟨(some 31), .len (.t 30), none⟩,
  ⟨(some 32), .bin .eql (.t 31) (.k (.I 0)), none⟩,
  ⟨(some 33), .mv (.t 32), none⟩,
  ⟨(some 34), .mv (.t 6), (some (33, true))⟩,
  ⟨(some 35), .len (.t 34), (some (33, true))⟩,
  ⟨(some 36), .bin .eql (.t 35) (.k (.I 0)), (some (33, true))⟩,
  ⟨(some 37), .pick (.t 33) (.t 36) (.k (.B false)), none⟩,
  ⟨(some 38), .mv (.t 37), none⟩,
  ⟨(some 39), .mv (.t 7), (some (38, true))⟩,
  ⟨(some 40), .bin .eql (.t 39) (.k (.I 7)), (some (38, true))⟩,
  ⟨(some 41), .mv (.t 0), (some (38, true))⟩,
  ⟨(some 42), .mv (.t 1), (some (38, true))⟩,
  ⟨(some 43), .call 22 [(.t 41), (.t 42)], (some (38, true))⟩,
  ⟨(some 44), .beq false (.t 40) (.t 43), (some (38, true))⟩,
  ⟨(some 45), .pick (.t 38) (.t 44) (.k (.B false)), none⟩,
  ⟨(some 4), .mv (.t 45), none⟩] false
abbrev c5_10 : AC := .seq c5_9 .ret
abbrev c5_11 : AC := .cond (.t 29) c5_10 .skip
abbrev c5_12 : AC := .seq c5_8 c5_11
abbrev c5_13 : AC := .reg [⟨(some 47), .mv (.t 0), none⟩,
  ⟨(some 48), .mv (.t 1), none⟩,
  ⟨(some 49), .mv (.t 5), none⟩,
  ⟨(some 50), .mv (.t 6), none⟩,
  ⟨(some 51), .call 11 [(.t 47), (.t 48), (.t 49), (.t 50)], none⟩,
  ⟨(some 46), .mv (.t 51), none⟩,
  ⟨(some 52), .ext (.t 46) 0, none⟩,
  ⟨(some 53), .ext (.t 46) 1, none⟩,
  ⟨(some 8), .mv (.t 52), none⟩,
  ⟨(some 9), .mv (.t 53), none⟩] false
abbrev c5_14 : AC := .reg [⟨(some 54), .mv (.t 9), none⟩,
  ⟨(some 55), .bin .neq (.t 54) (.k (.I 0)), none⟩,
  ⟨(some 56), .mv (.t 55), none⟩,
  ⟨(some 57), .mv (.t 8), (some (56, false))⟩,
  ⟨(some 58), .len (.t 57), (some (56, false))⟩,
  ⟨(some 59), .mv (.t 5), (some (56, false))⟩,
  ⟨(some 60), .len (.t 59), (some (56, false))⟩,
  ⟨(some 61), .bin .neq (.t 58) (.t 60), (some (56, false))⟩,
  ⟨(some 62), .pick (.t 56) (.k (.B true)) (.t 61), none⟩,
  ⟨(some 63), .mv (.t 62), none⟩,
  ⟨(some 64), .mv (.t 5), (some (63, false))⟩,
  ⟨(some 65), .len (.t 64), (some (63, false))⟩,
  ⟨(some 66), .bin .lss (.t 65) (.k (.I 3)), (some (63, false))⟩,
  ⟨(some 67), .pick (.t 63) (.k (.B true)) (.t 66), none⟩,
  ⟨(some 68), .mv (.t 67), none⟩,
  ⟨(some 69), .mv (.t 6), (some (68, false))⟩,
  ⟨(some 70), .len (.t 69), (some (68, false))⟩,
  ⟨(some 71), .bin .lss (.t 70) (.k (.I 3)), (some (68, false))⟩,
  ⟨(some 72), .pick (.t 68) (.k (.B true)) (.t 71), none⟩] false
abbrev c5_15 : AC := .reg [⟨(some 4), .mv (.k (.B false)), none⟩] false
abbrev c5_16 : AC := .seq c5_15 .ret
abbrev c5_17 : AC := .cond (.t 72) c5_16 .skip
abbrev c5_18 : AC := .seq c5_14 c5_17
abbrev c5_19 : AC := .reg [⟨(some 10), .mv (.k (.I 0)), none⟩] false
abbrev c5_20 : AC := .reg [⟨(some 73), .mv (.t 10), none⟩,
  ⟨(some 74), .mv (.t 8), none⟩,
  ⟨(some 75), .len (.t 74), none⟩,
  ⟨(some 76), .bin .lss (.t 73) (.t 75), none⟩] false
abbrev c5_21 : AC := .cond (.t 76) .skip (.exit 0)
abbrev c5_22 : AC := .seq c5_20 c5_21
abbrev c5_23 : AC := .reg [⟨(some 79), .mv (.t 8), none⟩,
  ⟨(some 80), .mv (.t 10), none⟩,
  ⟨(some 81), .iad 1 (.t 79) (.t 80), none⟩,
  ⟨(some 82), .ld none (.t 81), none⟩,
  ⟨(some 83), .len (.t 82), none⟩,
  ⟨(some 84), .bin .lss (.t 83) (.k (.I 2)), none⟩,
  ⟨(some 85), .mv (.t 84), none⟩,
  ⟨(some 86), .mv (.t 8), (some (85, false))⟩,
  ⟨(some 87), .mv (.t 10), (some (85, false))⟩,
  ⟨(some 88), .iad 1 (.t 86) (.t 87), (some (85, false))⟩,
  ⟨(some 89), .ld none (.t 88), (some (85, false))⟩,
  ⟨(some 90), .len (.t 89), (some (85, false))⟩,
  ⟨(some 91), .mv (.t 6), (some (85, false))⟩,
  ⟨(some 92), .len (.t 91), (some (85, false))⟩,
  ⟨(some 93), .bin .geq (.t 90) (.t 92), (some (85, false))⟩,
  ⟨(some 94), .pick (.t 85) (.k (.B true)) (.t 93), none⟩] false
abbrev c5_24 : AC := .reg [⟨(some 4), .mv (.k (.B false)), none⟩] false
abbrev c5_25 : AC := .seq c5_24 .ret
abbrev c5_26 : AC := .cond (.t 94) c5_25 .skip
abbrev c5_27 : AC := .seq c5_23 c5_26
abbrev c5_28 : AC := .block 1 c5_27
abbrev c5_29 : AC := .reg [⟨(some 77), .mv (.t 10), none⟩,
  ⟨(some 78), .bin .add (.t 77) (.k (.I 1)), none⟩,
  ⟨(some 10), .mv (.t 78), none⟩] false
abbrev c5_30 : AC := .seq c5_28 c5_29
abbrev c5_31 : AC := .seq c5_22 c5_30
abbrev c5_32 : AC := .loop c5_31
abbrev c5_33 : AC := .block 0 c5_32
abbrev c5_34 : AC := .seq c5_19 c5_33
abbrev c5_35 : AC := .reg [⟨(some 95), .mv (.t 6), none⟩,
  ⟨(some 96), .len (.t 95), none⟩,
  ⟨(some 97), .mv (.t 8), none⟩,
  ⟨(some 98), .call 23 [(.t 96), (.t 97)], none⟩,
  ⟨(some 11), .mv (.t 98), none⟩] false
abbrev c5_36 : AC := .reg [⟨(some 99), .mv (.t 11), none⟩,
  ⟨(some 100), .bin .eql (.t 99) (.k (.I 1)), none⟩,
  ⟨(some 101), .mv (.t 100), none⟩,
  ⟨(some 102), .mv (.t 5), (some (101, true))⟩,
  ⟨(some 103), .len (.t 102), (some (101, true))⟩,
  ⟨(some 104), .mv (.t 6), (some (101, true))⟩,
  ⟨(some 105), .len (.t 104), (some (101, true))⟩,
  ⟨(some 106), .bin .eql (.t 103) (.t 105), (some (101, true))⟩,
  ⟨(some 107), .pick (.t 101) (.t 106) (.k (.B false)), none⟩,
  ⟨(some 108), .mv (.t 107), none⟩,
  ⟨(some 109), .mv (.t 11), (some (108, false))⟩,
  ⟨(some 110), .bin .eql (.t 109) (.k (.I 2)), (some (108, false))⟩,
  ⟨(some 111), .pick (.t 108) (.k (.B true)) (.t 110), none⟩,
  ⟨(some 4), .mv (.t 111), none⟩] false
abbrev c5_37 : AC := .seq c5_36 .ret
abbrev c5_38 : AC := .seq c5_35 c5_37
abbrev c5_39 : AC := .seq c5_34 c5_38
abbrev c5_40 : AC := .seq c5_18 c5_39
abbrev c5_41 : AC := .seq c5_13 c5_40
abbrev c5_42 : AC := .seq c5_12 c5_41
abbrev c5_43 : AC := .seq c5_7 c5_42
abbrev c5_44 : AC := .seq c5_6 c5_43
abbrev c5_45 : AC := .seq c5_1 c5_44
abbrev c5 : AC := c5_45
theorem code5 : fnCode Try.prog 5 = some (c5, [4], 112) := by kernel_rfl
/- coinage/coinagelaw29.ObstructionFinds -/
abbrev c6_1 : AC := .reg [⟨(some 4), .mv (.k (.B false)), none⟩] false
abbrev c6_2 : AC := .reg [⟨(some 15), .call 8 [], none⟩,
  ⟨(some 16), .not (.t 15), none⟩,
  ⟨(some 17), .mv (.t 16), none⟩,
  ⟨(some 18), .mv (.t 0), (some (17, false))⟩,
  ⟨(some 19), .mv (.t 1), (some (17, false))⟩,
  ⟨(some 20), .call 9 [(.t 18), (.t 19)], (some (17, false))⟩,
  ⟨(some 21), .not (.t 20), (some (17, false))⟩,
  ⟨(some 22), .pick (.t 17) (.k (.B true)) (.t 21), none⟩] false
abbrev c6_3 : AC := .reg [⟨(some 23), .call 8 [], none⟩,
  ⟨(some 4), .mv (.t 23), none⟩] false
abbrev c6_4 : AC := .seq c6_3 .ret
abbrev c6_5 : AC := .cond (.t 22) c6_4 .skip
abbrev c6_6 : AC := .seq c6_2 c6_5
abbrev c6_7 : AC := .reg [⟨(some 25), .mv (.t 0), none⟩,
  ⟨(some 26), .mv (.t 1), none⟩,
  ⟨(some 27), .call 21 [(.t 25), (.t 26)], none⟩,
  ⟨(some 24), .mv (.t 27), none⟩,
  ⟨(some 28), .ext (.t 24) 0, none⟩,
  ⟨(some 29), .ext (.t 24) 1, none⟩,
  ⟨(some 30), .ext (.t 24) 2, none⟩,
  ⟨(some 5), .mv (.t 28), none⟩,
  ⟨(some 6), .mv (.t 29), none⟩,
  ⟨(some 7), .mv (.t 30), none⟩] false
abbrev c6_8 : AC := .reg [⟨(some 32), .mv (.t 0), none⟩,
  ⟨(some 33), .mv (.t 1), none⟩,
  ⟨(some 34), .call 24 [(.t 32), (.t 33)], none⟩,
  ⟨(some 31), .mv (.t 34), none⟩,
  ⟨(some 35), .ext (.t 31) 0, none⟩,
  ⟨(some 36), .ext (.t 31) 1, none⟩,
  ⟨(some 8), .mv (.t 35), none⟩,
  ⟨(some 9), .mv (.t 36), none⟩] false
abbrev c6_9 : AC := .reg [⟨(some 38), .mv (.t 0), none⟩,
  ⟨(some 39), .mv (.t 1), none⟩,
  ⟨(some 40), .call 25 [(.t 38), (.t 39)], none⟩,
  ⟨(some 37), .mv (.t 40), none⟩,
  ⟨(some 41), .ext (.t 37) 0, none⟩,
  ⟨(some 42), .ext (.t 37) 1, none⟩,
  ⟨(some 43), .ext (.t 37) 2, none⟩,
  ⟨(some 10), .mv (.t 41), none⟩,
  ⟨(some 11), .mv (.t 42), none⟩,
  ⟨(some 12), .mv (.t 43), none⟩] false
abbrev c6_10 : AC := .reg [⟨(some 45), .mv (.t 0), none⟩,
  ⟨(some 46), .mv (.t 1), none⟩,
  ⟨(some 47), .call 26 [(.t 45), (.t 46)], none⟩,
  ⟨(some 44), .mv (.t 47), none⟩,
  ⟨(some 48), .ext (.t 44) 0, none⟩,
  ⟨(some 49), .ext (.t 44) 1, none⟩,
  ⟨(some 13), .mv (.t 48), none⟩,
  ⟨(some 14), .mv (.t 49), none⟩] false
abbrev c6_11 : AC := .reg [⟨(some 50), .mv (.t 7), none⟩,
  ⟨(some 51), .mv (.t 12), none⟩,
  ⟨(some 52), .bin .eql (.t 50) (.t 51), none⟩,
  ⟨(some 53), .mv (.t 52), none⟩,
  ⟨(some 54), .mv (.t 9), (some (53, true))⟩,
  ⟨(some 55), .mv (.t 14), (some (53, true))⟩,
  ⟨(some 56), .bin .eql (.t 54) (.t 55), (some (53, true))⟩,
  ⟨(some 57), .pick (.t 53) (.t 56) (.k (.B false)), none⟩,
  ⟨(some 58), .mv (.t 57), none⟩,
  ⟨(some 59), .mv (.t 5), (some (58, true))⟩,
  ⟨(some 60), .mv (.t 10), (some (58, true))⟩,
  ⟨(some 61), .call 27 [(.t 59), (.t 60)], (some (58, true))⟩,
  ⟨(some 62), .pick (.t 58) (.t 61) (.k (.B false)), none⟩,
  ⟨(some 63), .mv (.t 62), none⟩,
  ⟨(some 64), .mv (.t 6), (some (63, true))⟩,
  ⟨(some 65), .mv (.t 11), (some (63, true))⟩,
  ⟨(some 66), .call 27 [(.t 64), (.t 65)], (some (63, true))⟩,
  ⟨(some 67), .pick (.t 63) (.t 66) (.k (.B false)), none⟩,
  ⟨(some 68), .mv (.t 67), none⟩,
  ⟨(some 69), .mv (.t 8), (some (68, true))⟩,
  ⟨(some 70), .mv (.t 13), (some (68, true))⟩,
  ⟨(some 71), .call 27 [(.t 69), (.t 70)], (some (68, true))⟩,
  ⟨(some 72), .pick (.t 68) (.t 71) (.k (.B false)), none⟩,
  ⟨(some 73), .mv (.t 72), none⟩,
  ⟨(some 74), .mv (.t 0), (some (73, true))⟩,
  ⟨(some 75), .mv (.t 1), (some (73, true))⟩,
  ⟨(some 76), .call 23 [(.t 74), (.t 75)], (some (73, true))⟩,
  ⟨(some 77), .mv (.t 0), (some (73, true))⟩,
  ⟨(some 78), .mv (.t 1), (some (73, true))⟩,
  ⟨(some 79), .call 28 [(.t 77), (.t 78)], (some (73, true))⟩,
  ⟨(some 80), .bin .eql (.t 76) (.t 79), (some (73, true))⟩,
  ⟨(some 81), .pick (.t 73) (.t 80) (.k (.B false)), none⟩,
  ⟨(some 4), .mv (.t 81), none⟩] false
abbrev c6_12 : AC := .seq c6_11 .ret
abbrev c6_13 : AC := .seq c6_10 c6_12
abbrev c6_14 : AC := .seq c6_9 c6_13
abbrev c6_15 : AC := .seq c6_8 c6_14
abbrev c6_16 : AC := .seq c6_7 c6_15
abbrev c6_17 : AC := .seq c6_6 c6_16
abbrev c6_18 : AC := .seq c6_1 c6_17
abbrev c6 : AC := c6_18
theorem code6 : fnCode Try.prog 6 = some (c6, [4], 82) := by kernel_rfl
/- coinage/coinagelaw29.ObstructionFewest -/
abbrev c7_1 : AC := .reg [⟨(some 6), .mv (.k (.B false)), none⟩] false
abbrev c7_2 : AC := .reg [⟨(some 10), .call 8 [], none⟩,
  ⟨(some 11), .not (.t 10), none⟩,
  ⟨(some 12), .mv (.t 11), none⟩,
  ⟨(some 13), .mv (.t 0), (some (12, false))⟩,
  ⟨(some 14), .mv (.t 1), (some (12, false))⟩,
  ⟨(some 15), .call 9 [(.t 13), (.t 14)], (some (12, false))⟩,
  ⟨(some 16), .not (.t 15), (some (12, false))⟩,
  ⟨(some 17), .pick (.t 12) (.k (.B true)) (.t 16), none⟩,
  ⟨(some 18), .mv (.t 17), none⟩,
  ⟨(some 19), .mv (.t 2), (some (18, false))⟩,
  ⟨(some 20), .len (.t 19), (some (18, false))⟩,
  ⟨(some 21), .bin .gtr (.t 20) (.k (.I 30)), (some (18, false))⟩,
  ⟨(some 22), .pick (.t 18) (.k (.B true)) (.t 21), none⟩] false
abbrev c7_3 : AC := .reg [⟨(some 23), .call 8 [], none⟩,
  ⟨(some 6), .mv (.t 23), none⟩] false
abbrev c7_4 : AC := .seq c7_3 .ret
abbrev c7_5 : AC := .cond (.t 22) c7_4 .skip
abbrev c7_6 : AC := .seq c7_2 c7_5
abbrev c7_7 : AC := .reg [⟨(some 25), .mv (.t 0), none⟩,
  ⟨(some 26), .mv (.t 1), none⟩,
  ⟨(some 27), .call 24 [(.t 25), (.t 26)], none⟩,
  ⟨(some 24), .mv (.t 27), none⟩,
  ⟨(some 28), .ext (.t 24) 0, none⟩,
  ⟨(some 29), .ext (.t 24) 1, none⟩,
  ⟨(some 7), .mv (.t 28), none⟩,
  ⟨(some 8), .mv (.t 29), none⟩] false
abbrev c7_8 : AC := .reg [⟨(some 30), .mv (.t 8), none⟩,
  ⟨(some 31), .bin .neq (.t 30) (.k (.I 0)), none⟩] false
abbrev c7_9 : AC := .reg [⟨(some 32), .mv (.t 7), none⟩,
  ⟨(some 33), .len (.t 32), none⟩,
  ⟨(some 34), .bin .eql (.t 33) (.k (.I 0)), none⟩,
  ⟨(some 35), .mv (.t 34), none⟩,
  ⟨(some 36), .mv (.t 8), (some (35, true))⟩,
  ⟨(some 37), .bin .neq (.t 36) (.k (.I 7)), (some (35, true))⟩,
  ⟨(some 38), .mv (.t 37), (some (35, true))⟩,
  ⟨(some 39), .mv (.t 0), (some (38, false))⟩,
  ⟨(some 40), .mv (.t 1), (some (38, false))⟩,
  ⟨(some 41), .call 20 [(.t 39), (.t 40)], (some (38, false))⟩,
  ⟨(some 42), .pick (.t 38) (.k (.B true)) (.t 41), (some (35, true))⟩,
  ⟨(some 43), .pick (.t 35) (.t 42) (.k (.B false)), none⟩,
  ⟨(some 44), .mv (.t 43), none⟩,
  ⟨(some 45), .mv (.t 8), (some (44, true))⟩,
  ⟨(some 46), .bin .neq (.t 45) (.k (.I 6)), (some (44, true))⟩,
  ⟨(some 47), .mv (.t 46), (some (44, true))⟩,
  ⟨(some 48), .mv (.t 1), (some (47, false))⟩,
  ⟨(some 49), .len (.t 48), (some (47, false))⟩,
  ⟨(some 50), .bin .gtr (.t 49) (.k (.I 8)), (some (47, false))⟩,
  ⟨(some 51), .pick (.t 47) (.k (.B true)) (.t 50), (some (44, true))⟩,
  ⟨(some 52), .pick (.t 44) (.t 51) (.k (.B false)), none⟩,
  ⟨(some 6), .mv (.t 52), none⟩] false
abbrev c7_10 : AC := .seq c7_9 .ret
abbrev c7_11 : AC := .cond (.t 31) c7_10 .skip
abbrev c7_12 : AC := .seq c7_8 c7_11
abbrev c7_13 : AC := .reg [⟨(some 53), .mv (.t 0), none⟩,
  ⟨(some 54), .mv (.t 1), none⟩,
  ⟨(some 55), .mv (.t 7), none⟩,
  ⟨(some 56), .mv (.t 0), none⟩,
  ⟨(some 57), .minmax false (.t 56) (.k (.I 7)), none⟩,
  ⟨(some 58), .call 19 [(.t 57)], none⟩,
  ⟨(some 59), .call 14 [(.t 53), (.t 54), (.t 55), (.t 58)], none⟩,
  ⟨(some 60), .not (.t 59), none⟩] false
abbrev c7_14 : AC := .reg [⟨(some 6), .mv (.k (.B false)), none⟩] false
abbrev c7_15 : AC := .seq c7_14 .ret
abbrev c7_16 : AC := .cond (.t 60) c7_15 .skip
abbrev c7_17 : AC := .seq c7_13 c7_16
abbrev c7_18 : AC := .reg [⟨(some 61), .mv (.t 0), none⟩,
  ⟨(some 62), .mv (.t 1), none⟩,
  ⟨(some 63), .mv (.t 2), none⟩,
  ⟨(some 64), .mv (.t 0), none⟩,
  ⟨(some 65), .minmax false (.t 64) (.k (.I 7)), none⟩,
  ⟨(some 66), .call 19 [(.t 65)], none⟩,
  ⟨(some 67), .call 14 [(.t 61), (.t 62), (.t 63), (.t 66)], none⟩,
  ⟨(some 68), .not (.t 67), none⟩] false
abbrev c7_19 : AC := .reg [⟨(some 6), .mv (.k (.B true)), none⟩] false
abbrev c7_20 : AC := .seq c7_19 .ret
abbrev c7_21 : AC := .cond (.t 68) c7_20 .skip
abbrev c7_22 : AC := .seq c7_18 c7_21
abbrev c7_23 : AC := .reg [⟨(some 69), .mv (.t 2), none⟩,
  ⟨(some 70), .len (.t 69), none⟩,
  ⟨(some 71), .mv (.t 7), none⟩,
  ⟨(some 72), .len (.t 71), none⟩,
  ⟨(some 73), .bin .neq (.t 70) (.t 72), none⟩] false
abbrev c7_24 : AC := .reg [⟨(some 74), .mv (.t 2), none⟩,
  ⟨(some 75), .len (.t 74), none⟩,
  ⟨(some 76), .mv (.t 7), none⟩,
  ⟨(some 77), .len (.t 76), none⟩,
  ⟨(some 78), .bin .gtr (.t 75) (.t 77), none⟩,
  ⟨(some 6), .mv (.t 78), none⟩] false
abbrev c7_25 : AC := .seq c7_24 .ret
abbrev c7_26 : AC := .cond (.t 73) c7_25 .skip
abbrev c7_27 : AC := .seq c7_23 c7_26
abbrev c7_28 : AC := .reg [⟨(some 9), .mv (.k (.I 0)), none⟩] false
abbrev c7_29 : AC := .reg [⟨(some 79), .mv (.t 9), none⟩,
  ⟨(some 80), .mv (.t 7), none⟩,
  ⟨(some 81), .len (.t 80), none⟩,
  ⟨(some 82), .bin .lss (.t 79) (.t 81), none⟩] false
abbrev c7_30 : AC := .cond (.t 82) .skip (.exit 0)
abbrev c7_31 : AC := .seq c7_29 c7_30
abbrev c7_32 : AC := .regD [(⟨(some 85), .mv (.t 2), none⟩, [2]),
  (⟨(some 86), .mv (.t 9), none⟩, [9]),
  (⟨(some 87), .iad 1 (.t 85) (.t 86), none⟩, [85, 86]),
  (⟨(some 88), .ld none (.t 87), none⟩, [87]),
  (⟨(some 89), .mv (.t 7), none⟩, [7]),
  (⟨(some 90), .mv (.t 9), none⟩, [9]),
  (⟨(some 91), .iad 1 (.t 89) (.t 90), none⟩, [89, 90]),
  (⟨(some 92), .ld none (.t 91), none⟩, [91]),
  (⟨(some 93), .bin .neq (.t 88) (.t 92), none⟩, [88, 92])]
abbrev c7_33 : AC := .regD [(⟨(some 94), .mv (.t 2), none⟩, [2]),
  (⟨(some 95), .mv (.t 9), none⟩, [9]),
  (⟨(some 96), .iad 1 (.t 94) (.t 95), none⟩, [94, 95]),
  (⟨(some 97), .ld none (.t 96), none⟩, [96]),
  (⟨(some 98), .mv (.t 7), none⟩, [7]),
  (⟨(some 99), .mv (.t 9), none⟩, [9]),
  (⟨(some 100), .iad 1 (.t 98) (.t 99), none⟩, [98, 99]),
  (⟨(some 101), .ld none (.t 100), none⟩, [100]),
  (⟨(some 102), .bin .gtr (.t 97) (.t 101), none⟩, [97, 101]),
  (⟨(some 6), .mv (.t 102), none⟩, [102])]
abbrev c7_34 : AC := .seq c7_33 .ret
abbrev c7_35 : AC := .cond (.t 93) c7_34 .skip
abbrev c7_36 : AC := .seq c7_32 c7_35
abbrev c7_37 : AC := .block 1 c7_36
abbrev c7_38 : AC := .reg [⟨(some 83), .mv (.t 9), none⟩,
  ⟨(some 84), .bin .add (.t 83) (.k (.I 1)), none⟩,
  ⟨(some 9), .mv (.t 84), none⟩] false
abbrev c7_39 : AC := .seq c7_37 c7_38
abbrev c7_40 : AC := .seq c7_31 c7_39
abbrev c7_41 : AC := .loop c7_40
abbrev c7_42 : AC := .block 0 c7_41
abbrev c7_43 : AC := .seq c7_28 c7_42
abbrev c7_44 : AC := .reg [⟨(some 6), .mv (.k (.B true)), none⟩] false
abbrev c7_45 : AC := .seq c7_44 .ret
abbrev c7_46 : AC := .seq c7_43 c7_45
abbrev c7_47 : AC := .seq c7_27 c7_46
abbrev c7_48 : AC := .seq c7_22 c7_47
abbrev c7_49 : AC := .seq c7_17 c7_48
abbrev c7_50 : AC := .seq c7_12 c7_49
abbrev c7_51 : AC := .seq c7_7 c7_50
abbrev c7_52 : AC := .seq c7_6 c7_51
abbrev c7_53 : AC := .seq c7_1 c7_52
abbrev c7 : AC := c7_53
theorem code7 : fnCode Try.prog 7 = some (c7, [6], 103) := by kernel_rfl
/- coinage/coinagelaw29.awake -/
abbrev c8_1 : AC := .reg [⟨(some 0), .mv (.k (.B false)), none⟩] false
abbrev c8_2 : AC := .reg [⟨(some 5), .call 29 [], none⟩,
  ⟨(some 6), .call 21 [(.k (.I 4)), (.t 5)], none⟩,
  ⟨(some 4), .mv (.t 6), none⟩,
  ⟨(some 7), .ext (.t 4) 0, none⟩,
  ⟨(some 8), .ext (.t 4) 1, none⟩,
  ⟨(some 9), .ext (.t 4) 2, none⟩,
  ⟨(some 1), .mv (.t 7), none⟩,
  ⟨(some 2), .mv (.t 8), none⟩,
  ⟨(some 3), .mv (.t 9), none⟩] false
abbrev c8_3 : AC := .reg [⟨(some 10), .mv (.t 3), none⟩,
  ⟨(some 11), .bin .eql (.t 10) (.k (.I 0)), none⟩,
  ⟨(some 12), .mv (.t 11), none⟩,
  ⟨(some 13), .mv (.t 1), (some (12, true))⟩,
  ⟨(some 14), .bslice 3 1 [(.k (.I 0)), (.k (.I 1)), (.k (.I 3))], (some (12, true))⟩,
  ⟨(some 15), .call 27 [(.t 13), (.t 14)], (some (12, true))⟩,
  ⟨(some 16), .pick (.t 12) (.t 15) (.k (.B false)), none⟩,
  ⟨(some 17), .mv (.t 16), none⟩,
  ⟨(some 18), .mv (.t 2), (some (17, true))⟩,
  ⟨(some 19), .bslice 3 1 [(.k (.I 0)), (.k (.I 1)), (.k (.I 2))], (some (17, true))⟩,
  ⟨(some 20), .call 27 [(.t 18), (.t 19)], (some (17, true))⟩,
  ⟨(some 21), .pick (.t 17) (.t 20) (.k (.B false)), none⟩,
  ⟨(some 22), .mv (.t 21), none⟩,
  ⟨(some 23), .bslice 3 1 [(.k (.I 0)), (.k (.I 1))], (some (22, true))⟩,
  ⟨(some 24), .bslice 3 1 [(.k (.I 1)), (.k (.I 2))], (some (22, true))⟩,
  ⟨(some 25), .bslice 3 1 [(.k (.I 0)), (.k (.I 2))], (some (22, true))⟩,
  ⟨(some 26), .bslice 23 1 [(.t 23), (.t 24), (.t 25)], (some (22, true))⟩,
  ⟨(some 27), .call 23 [(.k (.I 3)), (.t 26)], (some (22, true))⟩,
  ⟨(some 28), .bin .eql (.t 27) (.k (.I 1)), (some (22, true))⟩,
  ⟨(some 29), .pick (.t 22) (.t 28) (.k (.B false)), none⟩,
  ⟨(some 0), .mv (.t 29), none⟩] false
abbrev c8_4 : AC := .seq c8_3 .ret
abbrev c8_5 : AC := .seq c8_2 c8_4
abbrev c8_6 : AC := .seq c8_1 c8_5
abbrev c8 : AC := c8_6
theorem code8 : fnCode Try.prog 8 = some (c8, [0], 30) := by kernel_rfl
/- coinage/coinagelaw29.few -/
abbrev c9_1 : AC := .reg [⟨(some 4), .mv (.k (.B false)), none⟩] false
abbrev c9_2 : AC := .reg [⟨(some 6), .mv (.t 0), none⟩,
  ⟨(some 7), .bin .gtr (.t 6) (.k (.I 5)), none⟩,
  ⟨(some 8), .mv (.t 7), none⟩,
  ⟨(some 9), .mv (.t 0), (some (8, true))⟩,
  ⟨(some 10), .bin .leq (.t 9) (.k (.I 7)), (some (8, true))⟩,
  ⟨(some 11), .pick (.t 8) (.t 10) (.k (.B false)), none⟩,
  ⟨(some 12), .mv (.t 11), none⟩,
  ⟨(some 13), .mv (.t 1), (some (12, false))⟩,
  ⟨(some 14), .len (.t 13), (some (12, false))⟩,
  ⟨(some 15), .bin .gtr (.t 14) (.k (.I 20)), (some (12, false))⟩,
  ⟨(some 16), .pick (.t 12) (.k (.B true)) (.t 15), none⟩] false
abbrev c9_3 : AC := .reg [⟨(some 4), .mv (.k (.B false)), none⟩] false
abbrev c9_4 : AC := .seq c9_3 .ret
abbrev c9_5 : AC := .cond (.t 16) c9_4 .skip
abbrev c9_6 : AC := .seq c9_2 c9_5
abbrev c9_7 : AC := .reg [⟨(some 5), .mv (.k (.I 0)), none⟩] false
abbrev c9_8 : AC := .reg [⟨(some 17), .mv (.t 5), none⟩,
  ⟨(some 18), .mv (.t 1), none⟩,
  ⟨(some 19), .len (.t 18), none⟩,
  ⟨(some 20), .bin .lss (.t 17) (.t 19), none⟩] false
abbrev c9_9 : AC := .cond (.t 20) .skip (.exit 0)
abbrev c9_10 : AC := .seq c9_8 c9_9
abbrev c9_11 : AC := .reg [⟨(some 23), .mv (.t 1), none⟩,
  ⟨(some 24), .mv (.t 5), none⟩,
  ⟨(some 25), .iad 1 (.t 23) (.t 24), none⟩,
  ⟨(some 26), .ld none (.t 25), none⟩,
  ⟨(some 27), .len (.t 26), none⟩,
  ⟨(some 28), .bin .gtr (.t 27) (.k (.I 30)), none⟩] false
abbrev c9_12 : AC := .reg [⟨(some 4), .mv (.k (.B false)), none⟩] false
abbrev c9_13 : AC := .seq c9_12 .ret
abbrev c9_14 : AC := .cond (.t 28) c9_13 .skip
abbrev c9_15 : AC := .seq c9_11 c9_14
abbrev c9_16 : AC := .block 1 c9_15
abbrev c9_17 : AC := .reg [⟨(some 21), .mv (.t 5), none⟩,
  ⟨(some 22), .bin .add (.t 21) (.k (.I 1)), none⟩,
  ⟨(some 5), .mv (.t 22), none⟩] false
abbrev c9_18 : AC := .seq c9_16 c9_17
abbrev c9_19 : AC := .seq c9_10 c9_18
abbrev c9_20 : AC := .loop c9_19
abbrev c9_21 : AC := .block 0 c9_20
abbrev c9_22 : AC := .seq c9_7 c9_21
abbrev c9_23 : AC := .reg [⟨(some 4), .mv (.k (.B true)), none⟩] false
abbrev c9_24 : AC := .seq c9_23 .ret
abbrev c9_25 : AC := .seq c9_22 c9_24
abbrev c9_26 : AC := .seq c9_6 c9_25
abbrev c9_27 : AC := .seq c9_1 c9_26
abbrev c9 : AC := c9_27
theorem code9 : fnCode Try.prog 9 = some (c9, [4], 29) := by kernel_rfl
/- coinage/coinagelaw29.short -/
abbrev c10_1 : AC := .reg [⟨(some 1), .box 25 (some 2) (.t 0), none⟩,
  ⟨(some 2), .mv (.k (.B false)), none⟩] false
abbrev c10_2 : AC := .reg [⟨(some 3), .fad 0 (.t 1), none⟩,
  ⟨(some 4), .ld none (.t 3), none⟩,
  ⟨(some 5), .len (.t 4), none⟩,
  ⟨(some 6), .bin .leq (.t 5) (.k (.I 30)), none⟩,
  ⟨(some 7), .mv (.t 6), none⟩,
  ⟨(some 8), .fad 1 (.t 1), (some (7, true))⟩,
  ⟨(some 9), .ld none (.t 8), (some (7, true))⟩,
  ⟨(some 10), .len (.t 9), (some (7, true))⟩,
  ⟨(some 11), .bin .leq (.t 10) (.k (.I 30)), (some (7, true))⟩,
  ⟨(some 12), .pick (.t 7) (.t 11) (.k (.B false)), none⟩,
  ⟨(some 2), .mv (.t 12), none⟩] false
abbrev c10_3 : AC := .seq c10_2 .ret
abbrev c10_4 : AC := .seq c10_1 c10_3
abbrev c10 : AC := c10_4
theorem code10 : fnCode Try.prog 10 = some (c10, [2], 13) := by kernel_rfl
/- coinage/obstruction.Cut -/
abbrev c11_1 : AC := .reg [⟨(some 8), .mv (.k (.c .nil)), none⟩,
  ⟨(some 9), .mv (.k (.I 0)), none⟩] false
abbrev c11_2 : AC := .reg [⟨(some 17), .mv (.t 0), none⟩,
  ⟨(some 18), .mv (.t 1), none⟩,
  ⟨(some 19), .call 22 [(.t 17), (.t 18)], none⟩,
  ⟨(some 20), .not (.t 19), none⟩] false
abbrev c11_3 : AC := .reg [⟨(some 8), .mv (.k (.c .nil)), none⟩,
  ⟨(some 9), .mv (.k (.I 1)), none⟩] false
abbrev c11_4 : AC := .seq c11_3 .ret
abbrev c11_5 : AC := .cond (.t 20) c11_4 .skip
abbrev c11_6 : AC := .seq c11_2 c11_5
abbrev c11_7 : AC := .reg [⟨(some 21), .mv (.t 2), none⟩,
  ⟨(some 22), .mv (.t 1), none⟩,
  ⟨(some 23), .len (.t 22), none⟩,
  ⟨(some 24), .call 30 [(.t 21), (.t 23)], none⟩,
  ⟨(some 25), .not (.t 24), none⟩,
  ⟨(some 26), .mv (.t 25), none⟩,
  ⟨(some 27), .mv (.t 3), (some (26, false))⟩,
  ⟨(some 28), .mv (.t 0), (some (26, false))⟩,
  ⟨(some 29), .call 30 [(.t 27), (.t 28)], (some (26, false))⟩,
  ⟨(some 30), .not (.t 29), (some (26, false))⟩,
  ⟨(some 31), .pick (.t 26) (.k (.B true)) (.t 30), none⟩] false
abbrev c11_8 : AC := .reg [⟨(some 8), .mv (.k (.c .nil)), none⟩,
  ⟨(some 9), .mv (.k (.I 2)), none⟩] false
abbrev c11_9 : AC := .seq c11_8 .ret
abbrev c11_10 : AC := .cond (.t 31) c11_9 .skip
abbrev c11_11 : AC := .seq c11_7 c11_10
abbrev c11_12 : AC := .reg [⟨(some 10), .mv (.k (.c .nil)), none⟩] false
abbrev c11_13 : AC := .reg [⟨(some 32), .mv (.t 2), none⟩,
  ⟨(some 33), .len (.t 32), none⟩,
  ⟨(some 34), .mv (.k (.I 0)), none⟩] false
abbrev c11_14 : AC := .reg [⟨(some 35), .bin .lss (.t 34) (.t 33), none⟩] false
abbrev c11_15 : AC := .cond (.t 35) .skip (.exit 0)
abbrev c11_16 : AC := .reg [⟨(some 36), .iad 1 (.t 32) (.t 34), none⟩,
  ⟨(some 37), .ld none (.t 36), none⟩,
  ⟨(some 12), .mv (.t 37), none⟩] false
abbrev c11_17 : AC := .reg [⟨(some 13), .mv (.k (.c .nil)), none⟩] false
abbrev c11_18 : AC := .reg [⟨(some 38), .mv (.t 1), none⟩,
  ⟨(some 39), .mv (.t 12), none⟩,
  ⟨(some 40), .iad 1 (.t 38) (.t 39), none⟩,
  ⟨(some 41), .ld none (.t 40), none⟩,
  ⟨(some 42), .len (.t 41), none⟩,
  ⟨(some 43), .mv (.k (.I 0)), none⟩] false
abbrev c11_19 : AC := .reg [⟨(some 44), .bin .lss (.t 43) (.t 42), none⟩] false
abbrev c11_20 : AC := .cond (.t 44) .skip (.exit 2)
abbrev c11_21 : AC := .reg [⟨(some 45), .iad 1 (.t 41) (.t 43), none⟩,
  ⟨(some 46), .ld none (.t 45), none⟩,
  ⟨(some 15), .mv (.t 46), none⟩] false
abbrev c11_22 : AC := .reg [⟨(some 47), .mv (.t 3), none⟩,
  ⟨(some 48), .mv (.t 15), none⟩,
  ⟨(some 49), .call 31 [(.t 47), (.t 48)], none⟩,
  ⟨(some 16), .mv (.t 49), none⟩] false
abbrev c11_23 : AC := .reg [⟨(some 50), .mv (.t 16), none⟩,
  ⟨(some 51), .bin .geq (.t 50) (.k (.I 0)), none⟩] false
abbrev c11_24 : AC := .reg [⟨(some 52), .mv (.t 13), none⟩,
  ⟨(some 53), .mv (.t 16), none⟩,
  ⟨(some 54), .bslice 3 1 [(.t 53)], none⟩,
  ⟨(some 55), .app 3 1 8 (.t 52) (.t 54), none⟩,
  ⟨(some 13), .mv (.t 55), none⟩] false
abbrev c11_25 : AC := .cond (.t 51) c11_24 .skip
abbrev c11_26 : AC := .seq c11_23 c11_25
abbrev c11_27 : AC := .seq c11_22 c11_26
abbrev c11_28 : AC := .seq c11_21 c11_27
abbrev c11_29 : AC := .block 3 c11_28
abbrev c11_30 : AC := .reg [⟨(some 56), .bin .add (.t 43) (.k (.I 1)), none⟩,
  ⟨(some 43), .mv (.t 56), none⟩] false
abbrev c11_31 : AC := .seq c11_29 c11_30
abbrev c11_32 : AC := .seq c11_20 c11_31
abbrev c11_33 : AC := .seq c11_19 c11_32
abbrev c11_34 : AC := .loop c11_33
abbrev c11_35 : AC := .block 2 c11_34
abbrev c11_36 : AC := .seq c11_18 c11_35
abbrev c11_37 : AC := .reg [⟨(some 57), .mv (.t 10), none⟩,
  ⟨(some 58), .mv (.t 13), none⟩,
  ⟨(some 59), .bslice 23 1 [(.t 58)], none⟩,
  ⟨(some 60), .app 23 1 24 (.t 57) (.t 59), none⟩,
  ⟨(some 10), .mv (.t 60), none⟩] false
abbrev c11_38 : AC := .seq c11_36 c11_37
abbrev c11_39 : AC := .seq c11_17 c11_38
abbrev c11_40 : AC := .seq c11_16 c11_39
abbrev c11_41 : AC := .block 1 c11_40
abbrev c11_42 : AC := .reg [⟨(some 61), .bin .add (.t 34) (.k (.I 1)), none⟩,
  ⟨(some 34), .mv (.t 61), none⟩] false
abbrev c11_43 : AC := .seq c11_41 c11_42
abbrev c11_44 : AC := .seq c11_15 c11_43
abbrev c11_45 : AC := .seq c11_14 c11_44
abbrev c11_46 : AC := .loop c11_45
abbrev c11_47 : AC := .block 0 c11_46
abbrev c11_48 : AC := .seq c11_13 c11_47
abbrev c11_49 : AC := .reg [⟨(some 62), .mv (.t 10), none⟩,
  ⟨(some 8), .mv (.t 62), none⟩,
  ⟨(some 9), .mv (.k (.I 0)), none⟩] false
abbrev c11_50 : AC := .seq c11_49 .ret
abbrev c11_51 : AC := .seq c11_48 c11_50
abbrev c11_52 : AC := .seq c11_12 c11_51
abbrev c11_53 : AC := .seq c11_11 c11_52
abbrev c11_54 : AC := .seq c11_6 c11_53
abbrev c11_55 : AC := .seq c11_1 c11_54
abbrev c11 : AC := c11_55
theorem code11 : fnCode Try.prog 11 = some (c11, [8, 9], 63) := by kernel_rfl
/- coinage/coinageref29.Cut -/
abbrev c12_1 : AC := .reg [⟨(some 8), .mv (.k (.c .nil)), none⟩,
  ⟨(some 9), .mv (.k (.I 0)), none⟩] false
abbrev c12_2 : AC := .reg [⟨(some 10), .mv (.t 0), none⟩,
  ⟨(some 11), .mv (.t 1), none⟩,
  ⟨(some 12), .call 18 [(.t 10), (.t 11)], none⟩,
  ⟨(some 13), .not (.t 12), none⟩] false
abbrev c12_3 : AC := .reg [⟨(some 8), .mv (.k (.c .nil)), none⟩,
  ⟨(some 9), .mv (.k (.I 1)), none⟩] false
abbrev c12_4 : AC := .seq c12_3 .ret
abbrev c12_5 : AC := .cond (.t 13) c12_4 .skip
abbrev c12_6 : AC := .seq c12_2 c12_5
abbrev c12_7 : AC := .reg [⟨(some 14), .mv (.t 0), none⟩,
  ⟨(some 15), .mv (.t 1), none⟩,
  ⟨(some 16), .mv (.t 2), none⟩,
  ⟨(some 17), .mv (.t 3), none⟩,
  ⟨(some 18), .call 32 [(.t 14), (.t 15), (.t 16), (.t 17)], none⟩,
  ⟨(some 19), .not (.t 18), none⟩] false
abbrev c12_8 : AC := .reg [⟨(some 8), .mv (.k (.c .nil)), none⟩,
  ⟨(some 9), .mv (.k (.I 2)), none⟩] false
abbrev c12_9 : AC := .seq c12_8 .ret
abbrev c12_10 : AC := .cond (.t 19) c12_9 .skip
abbrev c12_11 : AC := .seq c12_7 c12_10
abbrev c12_12 : AC := .reg [⟨(some 20), .mv (.t 1), none⟩,
  ⟨(some 21), .mv (.t 2), none⟩,
  ⟨(some 22), .mv (.t 3), none⟩,
  ⟨(some 23), .call 33 [(.t 20), (.t 21), (.t 22)], none⟩,
  ⟨(some 8), .mv (.t 23), none⟩,
  ⟨(some 9), .mv (.k (.I 0)), none⟩] false
abbrev c12_13 : AC := .seq c12_12 .ret
abbrev c12_14 : AC := .seq c12_11 c12_13
abbrev c12_15 : AC := .seq c12_6 c12_14
abbrev c12_16 : AC := .seq c12_1 c12_15
abbrev c12 : AC := c12_16
theorem code12 : fnCode Try.prog 12 = some (c12, [8, 9], 24) := by kernel_rfl
/- coinage/coinagebase.Lists -/
abbrev c13_1 : AC := .reg [⟨(some 4), .mv (.k (.B false)), none⟩] false
abbrev c13_2 : AC := .reg [⟨(some 6), .mv (.t 0), none⟩,
  ⟨(some 7), .len (.t 6), none⟩,
  ⟨(some 8), .mv (.t 1), none⟩,
  ⟨(some 9), .len (.t 8), none⟩,
  ⟨(some 10), .bin .neq (.t 7) (.t 9), none⟩] false
abbrev c13_3 : AC := .reg [⟨(some 4), .mv (.k (.B false)), none⟩] false
abbrev c13_4 : AC := .seq c13_3 .ret
abbrev c13_5 : AC := .cond (.t 10) c13_4 .skip
abbrev c13_6 : AC := .seq c13_2 c13_5
abbrev c13_7 : AC := .reg [⟨(some 5), .mv (.k (.I 0)), none⟩] false
abbrev c13_8 : AC := .reg [⟨(some 11), .mv (.t 5), none⟩,
  ⟨(some 12), .mv (.t 0), none⟩,
  ⟨(some 13), .len (.t 12), none⟩,
  ⟨(some 14), .bin .lss (.t 11) (.t 13), none⟩] false
abbrev c13_9 : AC := .cond (.t 14) .skip (.exit 0)
abbrev c13_10 : AC := .seq c13_8 c13_9
abbrev c13_11 : AC := .regD [(⟨(some 17), .mv (.t 0), none⟩, [0]),
  (⟨(some 18), .mv (.t 5), none⟩, [5]),
  (⟨(some 19), .iad 1 (.t 17) (.t 18), none⟩, [17, 18]),
  (⟨(some 20), .ld none (.t 19), none⟩, [19]),
  (⟨(some 21), .mv (.t 1), none⟩, [1]),
  (⟨(some 22), .mv (.t 5), none⟩, [5]),
  (⟨(some 23), .iad 1 (.t 21) (.t 22), none⟩, [21, 22]),
  (⟨(some 24), .ld none (.t 23), none⟩, [23]),
  (⟨(some 25), .call 27 [(.t 20), (.t 24)], none⟩, [20, 24]),
  (⟨(some 26), .not (.t 25), none⟩, [25])]
abbrev c13_12 : AC := .reg [⟨(some 4), .mv (.k (.B false)), none⟩] false
abbrev c13_13 : AC := .seq c13_12 .ret
abbrev c13_14 : AC := .cond (.t 26) c13_13 .skip
abbrev c13_15 : AC := .seq c13_11 c13_14
abbrev c13_16 : AC := .block 1 c13_15
abbrev c13_17 : AC := .reg [⟨(some 15), .mv (.t 5), none⟩,
  ⟨(some 16), .bin .add (.t 15) (.k (.I 1)), none⟩,
  ⟨(some 5), .mv (.t 16), none⟩] false
abbrev c13_18 : AC := .seq c13_16 c13_17
abbrev c13_19 : AC := .seq c13_10 c13_18
abbrev c13_20 : AC := .loop c13_19
abbrev c13_21 : AC := .block 0 c13_20
abbrev c13_22 : AC := .seq c13_7 c13_21
abbrev c13_23 : AC := .reg [⟨(some 4), .mv (.k (.B true)), none⟩] false
abbrev c13_24 : AC := .seq c13_23 .ret
abbrev c13_25 : AC := .seq c13_22 c13_24
abbrev c13_26 : AC := .seq c13_6 c13_25
abbrev c13_27 : AC := .seq c13_1 c13_26
abbrev c13 : AC := c13_27
theorem code13 : fnCode Try.prog 13 = some (c13, [4], 27) := by kernel_rfl
/- coinage/obstruction.Is -/
abbrev c14_1 : AC := .reg [⟨(some 8), .mv (.k (.B false)), none⟩] false
abbrev c14_2 : AC := .reg [⟨(some 12), .mv (.t 0), none⟩,
  ⟨(some 13), .mv (.t 1), none⟩,
  ⟨(some 14), .mv (.t 2), none⟩,
  ⟨(some 15), .mv (.t 3), none⟩,
  ⟨(some 16), .call 11 [(.t 12), (.t 13), (.t 14), (.t 15)], none⟩,
  ⟨(some 11), .mv (.t 16), none⟩,
  ⟨(some 17), .ext (.t 11) 0, none⟩,
  ⟨(some 18), .ext (.t 11) 1, none⟩,
  ⟨(some 9), .mv (.t 17), none⟩,
  ⟨(some 10), .mv (.t 18), none⟩] false
abbrev c14_3 : AC := .reg [⟨(some 19), .mv (.t 10), none⟩,
  ⟨(some 20), .bin .eql (.t 19) (.k (.I 0)), none⟩,
  ⟨(some 21), .mv (.t 20), none⟩,
  ⟨(some 22), .mv (.t 3), (some (21, true))⟩,
  ⟨(some 23), .len (.t 22), (some (21, true))⟩,
  ⟨(some 24), .mv (.t 9), (some (21, true))⟩,
  ⟨(some 25), .call 20 [(.t 23), (.t 24)], (some (21, true))⟩,
  ⟨(some 26), .not (.t 25), (some (21, true))⟩,
  ⟨(some 27), .pick (.t 21) (.t 26) (.k (.B false)), none⟩,
  ⟨(some 8), .mv (.t 27), none⟩] false
abbrev c14_4 : AC := .seq c14_3 .ret
abbrev c14_5 : AC := .seq c14_2 c14_4
abbrev c14_6 : AC := .seq c14_1 c14_5
abbrev c14 : AC := c14_6
theorem code14 : fnCode Try.prog 14 = some (c14, [8], 28) := by kernel_rfl
/- coinage/coinageref29.Is -/
abbrev c15_1 : AC := .reg [⟨(some 8), .mv (.k (.B false)), none⟩] false
abbrev c15_2 : AC := .reg [⟨(some 12), .mv (.t 0), none⟩,
  ⟨(some 13), .mv (.t 1), none⟩,
  ⟨(some 14), .mv (.t 2), none⟩,
  ⟨(some 15), .mv (.t 3), none⟩,
  ⟨(some 16), .call 12 [(.t 12), (.t 13), (.t 14), (.t 15)], none⟩,
  ⟨(some 11), .mv (.t 16), none⟩,
  ⟨(some 17), .ext (.t 11) 0, none⟩,
  ⟨(some 18), .ext (.t 11) 1, none⟩,
  ⟨(some 9), .mv (.t 17), none⟩,
  ⟨(some 10), .mv (.t 18), none⟩] false
abbrev c15_3 : AC := .reg [⟨(some 19), .mv (.t 10), none⟩,
  ⟨(some 20), .bin .eql (.t 19) (.k (.I 0)), none⟩,
  ⟨(some 21), .mv (.t 20), none⟩,
  ⟨(some 22), .mv (.t 3), (some (21, true))⟩,
  ⟨(some 23), .len (.t 22), (some (21, true))⟩,
  ⟨(some 24), .mv (.t 9), (some (21, true))⟩,
  ⟨(some 25), .call 34 [(.t 23), (.t 24)], (some (21, true))⟩,
  ⟨(some 26), .not (.t 25), (some (21, true))⟩,
  ⟨(some 27), .pick (.t 21) (.t 26) (.k (.B false)), none⟩,
  ⟨(some 8), .mv (.t 27), none⟩] false
abbrev c15_4 : AC := .seq c15_3 .ret
abbrev c15_5 : AC := .seq c15_2 c15_4
abbrev c15_6 : AC := .seq c15_1 c15_5
abbrev c15 : AC := c15_6
theorem code15 : fnCode Try.prog 15 = some (c15, [8], 28) := by kernel_rfl
/- coinage/obstruction.Minimal -/
abbrev c16_1 : AC := .reg [⟨(some 8), .mv (.k (.B false)), none⟩] false
abbrev c16_2 : AC := .reg [⟨(some 11), .mv (.t 0), none⟩,
  ⟨(some 12), .mv (.t 1), none⟩,
  ⟨(some 13), .mv (.t 2), none⟩,
  ⟨(some 14), .mv (.t 3), none⟩,
  ⟨(some 15), .call 14 [(.t 11), (.t 12), (.t 13), (.t 14)], none⟩,
  ⟨(some 16), .not (.t 15), none⟩] false
abbrev c16_3 : AC := .reg [⟨(some 8), .mv (.k (.B false)), none⟩] false
abbrev c16_4 : AC := .seq c16_3 .ret
abbrev c16_5 : AC := .cond (.t 16) c16_4 .skip
abbrev c16_6 : AC := .seq c16_2 c16_5
abbrev c16_7 : AC := .reg [⟨(some 17), .mv (.t 2), none⟩,
  ⟨(some 18), .len (.t 17), none⟩,
  ⟨(some 19), .mv (.k (.I 0)), none⟩] false
abbrev c16_8 : AC := .reg [⟨(some 20), .bin .lss (.t 19) (.t 18), none⟩] false
abbrev c16_9 : AC := .cond (.t 20) .skip (.exit 0)
abbrev c16_10 : AC := .reg [⟨(some 21), .mv (.t 19), none⟩,
  ⟨(some 9), .mv (.t 21), none⟩] false
abbrev c16_11 : AC := .reg [⟨(some 22), .mv (.t 0), none⟩,
  ⟨(some 23), .mv (.t 1), none⟩,
  ⟨(some 24), .mv (.t 2), none⟩,
  ⟨(some 25), .mv (.t 9), none⟩,
  ⟨(some 26), .call 35 [(.t 24), (.t 25)], none⟩,
  ⟨(some 27), .mv (.t 3), none⟩,
  ⟨(some 28), .call 14 [(.t 22), (.t 23), (.t 26), (.t 27)], none⟩] false
abbrev c16_12 : AC := .reg [⟨(some 8), .mv (.k (.B false)), none⟩] false
abbrev c16_13 : AC := .seq c16_12 .ret
abbrev c16_14 : AC := .cond (.t 28) c16_13 .skip
abbrev c16_15 : AC := .seq c16_11 c16_14
abbrev c16_16 : AC := .seq c16_10 c16_15
abbrev c16_17 : AC := .block 1 c16_16
abbrev c16_18 : AC := .reg [⟨(some 29), .bin .add (.t 19) (.k (.I 1)), none⟩,
  ⟨(some 19), .mv (.t 29), none⟩] false
abbrev c16_19 : AC := .seq c16_17 c16_18
abbrev c16_20 : AC := .seq c16_9 c16_19
abbrev c16_21 : AC := .seq c16_8 c16_20
abbrev c16_22 : AC := .loop c16_21
abbrev c16_23 : AC := .block 0 c16_22
abbrev c16_24 : AC := .seq c16_7 c16_23
abbrev c16_25 : AC := .reg [⟨(some 30), .mv (.t 3), none⟩,
  ⟨(some 31), .len (.t 30), none⟩,
  ⟨(some 32), .mv (.k (.I 0)), none⟩] false
abbrev c16_26 : AC := .reg [⟨(some 33), .bin .lss (.t 32) (.t 31), none⟩] false
abbrev c16_27 : AC := .cond (.t 33) .skip (.exit 2)
abbrev c16_28 : AC := .reg [⟨(some 34), .mv (.t 32), none⟩,
  ⟨(some 10), .mv (.t 34), none⟩] false
abbrev c16_29 : AC := .reg [⟨(some 35), .mv (.t 0), none⟩,
  ⟨(some 36), .mv (.t 1), none⟩,
  ⟨(some 37), .mv (.t 2), none⟩,
  ⟨(some 38), .mv (.t 3), none⟩,
  ⟨(some 39), .mv (.t 10), none⟩,
  ⟨(some 40), .call 35 [(.t 38), (.t 39)], none⟩,
  ⟨(some 41), .call 14 [(.t 35), (.t 36), (.t 37), (.t 40)], none⟩] false
abbrev c16_30 : AC := .reg [⟨(some 8), .mv (.k (.B false)), none⟩] false
abbrev c16_31 : AC := .seq c16_30 .ret
abbrev c16_32 : AC := .cond (.t 41) c16_31 .skip
abbrev c16_33 : AC := .seq c16_29 c16_32
abbrev c16_34 : AC := .seq c16_28 c16_33
abbrev c16_35 : AC := .block 3 c16_34
abbrev c16_36 : AC := .reg [⟨(some 42), .bin .add (.t 32) (.k (.I 1)), none⟩,
  ⟨(some 32), .mv (.t 42), none⟩] false
abbrev c16_37 : AC := .seq c16_35 c16_36
abbrev c16_38 : AC := .seq c16_27 c16_37
abbrev c16_39 : AC := .seq c16_26 c16_38
abbrev c16_40 : AC := .loop c16_39
abbrev c16_41 : AC := .block 2 c16_40
abbrev c16_42 : AC := .seq c16_25 c16_41
abbrev c16_43 : AC := .reg [⟨(some 8), .mv (.k (.B true)), none⟩] false
abbrev c16_44 : AC := .seq c16_43 .ret
abbrev c16_45 : AC := .seq c16_42 c16_44
abbrev c16_46 : AC := .seq c16_24 c16_45
abbrev c16_47 : AC := .seq c16_6 c16_46
abbrev c16_48 : AC := .seq c16_1 c16_47
abbrev c16 : AC := c16_48
theorem code16 : fnCode Try.prog 16 = some (c16, [8], 43) := by kernel_rfl
/- coinage/coinageref29.Minimal -/
abbrev c17_1 : AC := .reg [⟨(some 8), .mv (.k (.B false)), none⟩] false
abbrev c17_2 : AC := .reg [⟨(some 11), .mv (.t 0), none⟩,
  ⟨(some 12), .mv (.t 1), none⟩,
  ⟨(some 13), .mv (.t 2), none⟩,
  ⟨(some 14), .mv (.t 3), none⟩,
  ⟨(some 15), .call 15 [(.t 11), (.t 12), (.t 13), (.t 14)], none⟩,
  ⟨(some 16), .not (.t 15), none⟩] false
abbrev c17_3 : AC := .reg [⟨(some 8), .mv (.k (.B false)), none⟩] false
abbrev c17_4 : AC := .seq c17_3 .ret
abbrev c17_5 : AC := .cond (.t 16) c17_4 .skip
abbrev c17_6 : AC := .seq c17_2 c17_5
abbrev c17_7 : AC := .reg [⟨(some 9), .mv (.k (.I 0)), none⟩] false
abbrev c17_8 : AC := .reg [⟨(some 17), .mv (.t 9), none⟩,
  ⟨(some 18), .mv (.t 2), none⟩,
  ⟨(some 19), .len (.t 18), none⟩,
  ⟨(some 20), .bin .lss (.t 17) (.t 19), none⟩] false
abbrev c17_9 : AC := .cond (.t 20) .skip (.exit 0)
abbrev c17_10 : AC := .seq c17_8 c17_9
abbrev c17_11 : AC := .reg [⟨(some 23), .mv (.t 0), none⟩,
  ⟨(some 24), .mv (.t 1), none⟩,
  ⟨(some 25), .mv (.t 2), none⟩,
  ⟨(some 26), .mv (.t 9), none⟩,
  ⟨(some 27), .call 36 [(.t 25), (.t 26)], none⟩,
  ⟨(some 28), .mv (.t 3), none⟩,
  ⟨(some 29), .call 15 [(.t 23), (.t 24), (.t 27), (.t 28)], none⟩] false
abbrev c17_12 : AC := .reg [⟨(some 8), .mv (.k (.B false)), none⟩] false
abbrev c17_13 : AC := .seq c17_12 .ret
abbrev c17_14 : AC := .cond (.t 29) c17_13 .skip
abbrev c17_15 : AC := .seq c17_11 c17_14
abbrev c17_16 : AC := .block 1 c17_15
abbrev c17_17 : AC := .reg [⟨(some 21), .mv (.t 9), none⟩,
  ⟨(some 22), .bin .add (.t 21) (.k (.I 1)), none⟩,
  ⟨(some 9), .mv (.t 22), none⟩] false
abbrev c17_18 : AC := .seq c17_16 c17_17
abbrev c17_19 : AC := .seq c17_10 c17_18
abbrev c17_20 : AC := .loop c17_19
abbrev c17_21 : AC := .block 0 c17_20
abbrev c17_22 : AC := .seq c17_7 c17_21
abbrev c17_23 : AC := .reg [⟨(some 10), .mv (.k (.I 0)), none⟩] false
abbrev c17_24 : AC := .reg [⟨(some 30), .mv (.t 10), none⟩,
  ⟨(some 31), .mv (.t 3), none⟩,
  ⟨(some 32), .len (.t 31), none⟩,
  ⟨(some 33), .bin .lss (.t 30) (.t 32), none⟩] false
abbrev c17_25 : AC := .cond (.t 33) .skip (.exit 2)
abbrev c17_26 : AC := .seq c17_24 c17_25
abbrev c17_27 : AC := .reg [⟨(some 36), .mv (.t 0), none⟩,
  ⟨(some 37), .mv (.t 1), none⟩,
  ⟨(some 38), .mv (.t 2), none⟩,
  ⟨(some 39), .mv (.t 3), none⟩,
  ⟨(some 40), .mv (.t 10), none⟩,
  ⟨(some 41), .call 36 [(.t 39), (.t 40)], none⟩,
  ⟨(some 42), .call 15 [(.t 36), (.t 37), (.t 38), (.t 41)], none⟩] false
abbrev c17_28 : AC := .reg [⟨(some 8), .mv (.k (.B false)), none⟩] false
abbrev c17_29 : AC := .seq c17_28 .ret
abbrev c17_30 : AC := .cond (.t 42) c17_29 .skip
abbrev c17_31 : AC := .seq c17_27 c17_30
abbrev c17_32 : AC := .block 3 c17_31
abbrev c17_33 : AC := .reg [⟨(some 34), .mv (.t 10), none⟩,
  ⟨(some 35), .bin .add (.t 34) (.k (.I 1)), none⟩,
  ⟨(some 10), .mv (.t 35), none⟩] false
abbrev c17_34 : AC := .seq c17_32 c17_33
abbrev c17_35 : AC := .seq c17_26 c17_34
abbrev c17_36 : AC := .loop c17_35
abbrev c17_37 : AC := .block 2 c17_36
abbrev c17_38 : AC := .seq c17_23 c17_37
abbrev c17_39 : AC := .reg [⟨(some 8), .mv (.k (.B true)), none⟩] false
abbrev c17_40 : AC := .seq c17_39 .ret
abbrev c17_41 : AC := .seq c17_38 c17_40
abbrev c17_42 : AC := .seq c17_22 c17_41
abbrev c17_43 : AC := .seq c17_6 c17_42
abbrev c17_44 : AC := .seq c17_1 c17_43
abbrev c17 : AC := c17_44
theorem code17 : fnCode Try.prog 17 = some (c17, [8], 43) := by kernel_rfl
/- coinage/coinageref27.Valid -/
abbrev c18_1 : AC := .reg [⟨(some 4), .mv (.k (.B false)), none⟩] false
abbrev c18_2 : AC := .reg [⟨(some 5), .mv (.t 0), none⟩,
  ⟨(some 6), .mv (.t 1), none⟩,
  ⟨(some 7), .call 37 [(.t 5), (.t 6)], none⟩,
  ⟨(some 4), .mv (.t 7), none⟩] false
abbrev c18_3 : AC := .seq c18_2 .ret
abbrev c18_4 : AC := .seq c18_1 c18_3
abbrev c18 : AC := c18_4
theorem code18 : fnCode Try.prog 18 = some (c18, [4], 8) := by kernel_rfl
/- coinage/coinagelaw29.upto -/
abbrev c19_1 : AC := .reg [⟨(some 2), .mv (.k (.c .nil)), none⟩] false
abbrev c19_2 : AC := .reg [⟨(some 3), .mv (.k (.c .nil)), none⟩] false
abbrev c19_3 : AC := .reg [⟨(some 4), .mv (.k (.I 0)), none⟩] false
abbrev c19_4 : AC := .reg [⟨(some 5), .mv (.t 4), none⟩,
  ⟨(some 6), .mv (.t 0), none⟩,
  ⟨(some 7), .bin .lss (.t 5) (.t 6), none⟩] false
abbrev c19_5 : AC := .cond (.t 7) .skip (.exit 0)
abbrev c19_6 : AC := .seq c19_4 c19_5
abbrev c19_7 : AC := .reg [⟨(some 10), .mv (.t 3), none⟩,
  ⟨(some 11), .mv (.t 4), none⟩,
  ⟨(some 12), .bslice 3 1 [(.t 11)], none⟩,
  ⟨(some 13), .app 3 1 8 (.t 10) (.t 12), none⟩,
  ⟨(some 3), .mv (.t 13), none⟩] false
abbrev c19_8 : AC := .block 1 c19_7
abbrev c19_9 : AC := .reg [⟨(some 8), .mv (.t 4), none⟩,
  ⟨(some 9), .bin .add (.t 8) (.k (.I 1)), none⟩,
  ⟨(some 4), .mv (.t 9), none⟩] false
abbrev c19_10 : AC := .seq c19_8 c19_9
abbrev c19_11 : AC := .seq c19_6 c19_10
abbrev c19_12 : AC := .loop c19_11
abbrev c19_13 : AC := .block 0 c19_12
abbrev c19_14 : AC := .seq c19_3 c19_13
abbrev c19_15 : AC := .reg [⟨(some 14), .mv (.t 3), none⟩,
  ⟨(some 2), .mv (.t 14), none⟩] false
abbrev c19_16 : AC := .seq c19_15 .ret
abbrev c19_17 : AC := .seq c19_14 c19_16
abbrev c19_18 : AC := .seq c19_2 c19_17
abbrev c19_19 : AC := .seq c19_1 c19_18
abbrev c19 : AC := c19_19
theorem code19 : fnCode Try.prog 19 = some (c19, [2], 15) := by kernel_rfl
/- coinage/consecutive.Possible -/
abbrev c20_1 : AC := .reg [⟨(some 4), .mv (.k (.B false)), none⟩] false
abbrev c20_2 : AC := .reg [⟨(some 8), .mv (.t 0), none⟩,
  ⟨(some 9), .mv (.t 1), none⟩,
  ⟨(some 10), .call 38 [(.t 8), (.t 9)], none⟩,
  ⟨(some 7), .mv (.t 10), none⟩,
  ⟨(some 11), .ext (.t 7) 0, none⟩,
  ⟨(some 12), .ext (.t 7) 1, none⟩,
  ⟨(some 5), .mv (.t 11), none⟩,
  ⟨(some 6), .mv (.t 12), none⟩] false
abbrev c20_3 : AC := .reg [⟨(some 13), .mv (.t 6), none⟩,
  ⟨(some 14), .bin .eql (.t 13) (.k (.I 0)), none⟩,
  ⟨(some 4), .mv (.t 14), none⟩] false
abbrev c20_4 : AC := .seq c20_3 .ret
abbrev c20_5 : AC := .seq c20_2 c20_4
abbrev c20_6 : AC := .seq c20_1 c20_5
abbrev c20 : AC := c20_6
theorem code20 : fnCode Try.prog 20 = some (c20, [4], 15) := by kernel_rfl
/- coinage/obstruction.Find -/
abbrev c21_1 : AC := .reg [⟨(some 4), .mv (.k (.c .nil)), none⟩,
  ⟨(some 5), .mv (.k (.c .nil)), none⟩,
  ⟨(some 6), .mv (.k (.I 0)), none⟩] false
abbrev c21_2 : AC := .reg [⟨(some 13), .mv (.t 0), none⟩,
  ⟨(some 14), .mv (.t 1), none⟩,
  ⟨(some 15), .call 22 [(.t 13), (.t 14)], none⟩,
  ⟨(some 16), .not (.t 15), none⟩] false
abbrev c21_3 : AC := .reg [⟨(some 4), .mv (.k (.c .nil)), none⟩,
  ⟨(some 5), .mv (.k (.c .nil)), none⟩,
  ⟨(some 6), .mv (.k (.I 1)), none⟩] false
abbrev c21_4 : AC := .seq c21_3 .ret
abbrev c21_5 : AC := .cond (.t 16) c21_4 .skip
abbrev c21_6 : AC := .seq c21_2 c21_5
abbrev c21_7 : AC := .reg [⟨(some 17), .mv (.t 1), none⟩,
  ⟨(some 18), .len (.t 17), none⟩,
  ⟨(some 19), .call 39 [(.t 18)], none⟩,
  ⟨(some 20), .mv (.t 0), none⟩,
  ⟨(some 21), .call 39 [(.t 20)], none⟩,
  ⟨(some 7), .mv (.t 19), none⟩,
  ⟨(some 8), .mv (.t 21), none⟩] false
abbrev c21_8 : AC := .reg [⟨(some 22), .mv (.t 0), none⟩,
  ⟨(some 23), .mv (.t 1), none⟩,
  ⟨(some 24), .mv (.t 7), none⟩,
  ⟨(some 25), .mv (.t 8), none⟩,
  ⟨(some 26), .call 14 [(.t 22), (.t 23), (.t 24), (.t 25)], none⟩,
  ⟨(some 27), .not (.t 26), none⟩] false
abbrev c21_9 : AC := .reg [⟨(some 4), .mv (.k (.c .nil)), none⟩,
  ⟨(some 5), .mv (.k (.c .nil)), none⟩,
  ⟨(some 6), .mv (.k (.I 7)), none⟩] false
abbrev c21_10 : AC := .seq c21_9 .ret
abbrev c21_11 : AC := .cond (.t 27) c21_10 .skip
abbrev c21_12 : AC := .seq c21_8 c21_11
abbrev c21_13 : AC := .reg [⟨(some 28), .mv (.t 7), none⟩,
  ⟨(some 29), .len (.t 28), none⟩,
  ⟨(some 30), .bin .sub (.t 29) (.k (.I 1)), none⟩,
  ⟨(some 9), .mv (.t 30), none⟩] false
abbrev c21_14 : AC := .reg [⟨(some 31), .mv (.t 9), none⟩,
  ⟨(some 32), .bin .geq (.t 31) (.k (.I 0)), none⟩] false
abbrev c21_15 : AC := .cond (.t 32) .skip (.exit 0)
abbrev c21_16 : AC := .seq c21_14 c21_15
abbrev c21_17 : AC := .reg [⟨(some 35), .mv (.t 7), none⟩,
  ⟨(some 36), .mv (.t 9), none⟩,
  ⟨(some 37), .call 35 [(.t 35), (.t 36)], none⟩,
  ⟨(some 10), .mv (.t 37), none⟩] false
abbrev c21_18 : AC := .reg [⟨(some 38), .mv (.t 0), none⟩,
  ⟨(some 39), .mv (.t 1), none⟩,
  ⟨(some 40), .mv (.t 10), none⟩,
  ⟨(some 41), .mv (.t 8), none⟩,
  ⟨(some 42), .call 14 [(.t 38), (.t 39), (.t 40), (.t 41)], none⟩] false
abbrev c21_19 : AC := .reg [⟨(some 43), .mv (.t 10), none⟩,
  ⟨(some 7), .mv (.t 43), none⟩] false
abbrev c21_20 : AC := .cond (.t 42) c21_19 .skip
abbrev c21_21 : AC := .seq c21_18 c21_20
abbrev c21_22 : AC := .seq c21_17 c21_21
abbrev c21_23 : AC := .block 1 c21_22
abbrev c21_24 : AC := .reg [⟨(some 33), .mv (.t 9), none⟩,
  ⟨(some 34), .bin .sub (.t 33) (.k (.I 1)), none⟩,
  ⟨(some 9), .mv (.t 34), none⟩] false
abbrev c21_25 : AC := .seq c21_23 c21_24
abbrev c21_26 : AC := .seq c21_16 c21_25
abbrev c21_27 : AC := .loop c21_26
abbrev c21_28 : AC := .block 0 c21_27
abbrev c21_29 : AC := .seq c21_13 c21_28
abbrev c21_30 : AC := .reg [⟨(some 44), .mv (.t 8), none⟩,
  ⟨(some 45), .len (.t 44), none⟩,
  ⟨(some 46), .bin .sub (.t 45) (.k (.I 1)), none⟩,
  ⟨(some 11), .mv (.t 46), none⟩] false
abbrev c21_31 : AC := .reg [⟨(some 47), .mv (.t 11), none⟩,
  ⟨(some 48), .bin .geq (.t 47) (.k (.I 0)), none⟩] false
abbrev c21_32 : AC := .cond (.t 48) .skip (.exit 2)
abbrev c21_33 : AC := .seq c21_31 c21_32
abbrev c21_34 : AC := .reg [⟨(some 51), .mv (.t 8), none⟩,
  ⟨(some 52), .mv (.t 11), none⟩,
  ⟨(some 53), .call 35 [(.t 51), (.t 52)], none⟩,
  ⟨(some 12), .mv (.t 53), none⟩] false
abbrev c21_35 : AC := .reg [⟨(some 54), .mv (.t 0), none⟩,
  ⟨(some 55), .mv (.t 1), none⟩,
  ⟨(some 56), .mv (.t 7), none⟩,
  ⟨(some 57), .mv (.t 12), none⟩,
  ⟨(some 58), .call 14 [(.t 54), (.t 55), (.t 56), (.t 57)], none⟩] false
abbrev c21_36 : AC := .reg [⟨(some 59), .mv (.t 12), none⟩,
  ⟨(some 8), .mv (.t 59), none⟩] false
abbrev c21_37 : AC := .cond (.t 58) c21_36 .skip
abbrev c21_38 : AC := .seq c21_35 c21_37
abbrev c21_39 : AC := .seq c21_34 c21_38
abbrev c21_40 : AC := .block 3 c21_39
abbrev c21_41 : AC := .reg [⟨(some 49), .mv (.t 11), none⟩,
  ⟨(some 50), .bin .sub (.t 49) (.k (.I 1)), none⟩,
  ⟨(some 11), .mv (.t 50), none⟩] false
abbrev c21_42 : AC := .seq c21_40 c21_41
abbrev c21_43 : AC := .seq c21_33 c21_42
abbrev c21_44 : AC := .loop c21_43
abbrev c21_45 : AC := .block 2 c21_44
abbrev c21_46 : AC := .seq c21_30 c21_45
abbrev c21_47 : AC := .reg [⟨(some 60), .mv (.t 7), none⟩,
  ⟨(some 61), .mv (.t 8), none⟩,
  ⟨(some 4), .mv (.t 60), none⟩,
  ⟨(some 5), .mv (.t 61), none⟩,
  ⟨(some 6), .mv (.k (.I 0)), none⟩] false
abbrev c21_48 : AC := .seq c21_47 .ret
abbrev c21_49 : AC := .seq c21_46 c21_48
abbrev c21_50 : AC := .seq c21_29 c21_49
abbrev c21_51 : AC := .seq c21_12 c21_50
abbrev c21_52 : AC := .seq c21_7 c21_51
abbrev c21_53 : AC := .seq c21_6 c21_52
abbrev c21_54 : AC := .seq c21_1 c21_53
abbrev c21 : AC := c21_54
theorem code21 : fnCode Try.prog 21 = some (c21, [4, 5, 6], 62) := by kernel_rfl
/- coinage/consecutive.Valid -/
abbrev c22_1 : AC := .reg [⟨(some 4), .mv (.k (.B false)), none⟩] false
abbrev c22_2 : AC := .reg [⟨(some 9), .mv (.t 0), none⟩,
  ⟨(some 10), .bin .lss (.t 9) (.k (.I 0)), none⟩,
  ⟨(some 11), .mv (.t 10), none⟩,
  ⟨(some 12), .mv (.t 0), (some (11, false))⟩,
  ⟨(some 13), .bin .gtr (.t 12) (.k (.I 7)), (some (11, false))⟩,
  ⟨(some 14), .pick (.t 11) (.k (.B true)) (.t 13), none⟩,
  ⟨(some 15), .mv (.t 14), none⟩,
  ⟨(some 16), .mv (.t 1), (some (15, false))⟩,
  ⟨(some 17), .len (.t 16), (some (15, false))⟩,
  ⟨(some 18), .bin .gtr (.t 17) (.k (.I 16)), (some (15, false))⟩,
  ⟨(some 19), .pick (.t 15) (.k (.B true)) (.t 18), none⟩] false
abbrev c22_3 : AC := .reg [⟨(some 4), .mv (.k (.B false)), none⟩] false
abbrev c22_4 : AC := .seq c22_3 .ret
abbrev c22_5 : AC := .cond (.t 19) c22_4 .skip
abbrev c22_6 : AC := .seq c22_2 c22_5
abbrev c22_7 : AC := .reg [⟨(some 20), .mv (.t 1), none⟩,
  ⟨(some 21), .len (.t 20), none⟩,
  ⟨(some 22), .mv (.k (.I 0)), none⟩] false
abbrev c22_8 : AC := .reg [⟨(some 23), .bin .lss (.t 22) (.t 21), none⟩] false
abbrev c22_9 : AC := .cond (.t 23) .skip (.exit 0)
abbrev c22_10 : AC := .reg [⟨(some 24), .iad 1 (.t 20) (.t 22), none⟩,
  ⟨(some 25), .ld none (.t 24), none⟩,
  ⟨(some 6), .mv (.t 25), none⟩] false
abbrev c22_11 : AC := .reg [⟨(some 26), .mv (.t 6), none⟩,
  ⟨(some 27), .len (.t 26), none⟩,
  ⟨(some 28), .mv (.k (.I 0)), none⟩] false
abbrev c22_12 : AC := .reg [⟨(some 29), .bin .lss (.t 28) (.t 27), none⟩] false
abbrev c22_13 : AC := .cond (.t 29) .skip (.exit 2)
abbrev c22_14 : AC := .reg [⟨(some 30), .mv (.t 28), none⟩,
  ⟨(some 31), .iad 1 (.t 26) (.t 28), none⟩,
  ⟨(some 32), .ld none (.t 31), none⟩,
  ⟨(some 7), .mv (.t 30), none⟩,
  ⟨(some 8), .mv (.t 32), none⟩] false
abbrev c22_15 : AC := .reg [⟨(some 33), .mv (.t 8), none⟩,
  ⟨(some 34), .bin .lss (.t 33) (.k (.I 0)), none⟩,
  ⟨(some 35), .mv (.t 34), none⟩,
  ⟨(some 36), .mv (.t 8), (some (35, false))⟩,
  ⟨(some 37), .mv (.t 0), (some (35, false))⟩,
  ⟨(some 38), .bin .geq (.t 36) (.t 37), (some (35, false))⟩,
  ⟨(some 39), .pick (.t 35) (.k (.B true)) (.t 38), none⟩,
  ⟨(some 40), .mv (.t 39), none⟩,
  ⟨(some 41), .mv (.t 7), (some (40, false))⟩,
  ⟨(some 42), .bin .gtr (.t 41) (.k (.I 0)), (some (40, false))⟩,
  ⟨(some 43), .mv (.t 42), (some (40, false))⟩,
  ⟨(some 44), .mv (.t 8), (some (43, true))⟩,
  ⟨(some 45), .mv (.t 6), (some (43, true))⟩,
  ⟨(some 46), .mv (.t 7), (some (43, true))⟩,
  ⟨(some 47), .bin .sub (.t 46) (.k (.I 1)), (some (43, true))⟩,
  ⟨(some 48), .iad 1 (.t 45) (.t 47), (some (43, true))⟩,
  ⟨(some 49), .ld none (.t 48), (some (43, true))⟩,
  ⟨(some 50), .bin .leq (.t 44) (.t 49), (some (43, true))⟩,
  ⟨(some 51), .pick (.t 43) (.t 50) (.k (.B false)), (some (40, false))⟩,
  ⟨(some 52), .pick (.t 40) (.k (.B true)) (.t 51), none⟩] false
abbrev c22_16 : AC := .reg [⟨(some 4), .mv (.k (.B false)), none⟩] false
abbrev c22_17 : AC := .seq c22_16 .ret
abbrev c22_18 : AC := .cond (.t 52) c22_17 .skip
abbrev c22_19 : AC := .seq c22_15 c22_18
abbrev c22_20 : AC := .seq c22_14 c22_19
abbrev c22_21 : AC := .block 3 c22_20
abbrev c22_22 : AC := .reg [⟨(some 53), .bin .add (.t 28) (.k (.I 1)), none⟩,
  ⟨(some 28), .mv (.t 53), none⟩] false
abbrev c22_23 : AC := .seq c22_21 c22_22
abbrev c22_24 : AC := .seq c22_13 c22_23
abbrev c22_25 : AC := .seq c22_12 c22_24
abbrev c22_26 : AC := .loop c22_25
abbrev c22_27 : AC := .block 2 c22_26
abbrev c22_28 : AC := .seq c22_11 c22_27
abbrev c22_29 : AC := .seq c22_10 c22_28
abbrev c22_30 : AC := .block 1 c22_29
abbrev c22_31 : AC := .reg [⟨(some 54), .bin .add (.t 22) (.k (.I 1)), none⟩,
  ⟨(some 22), .mv (.t 54), none⟩] false
abbrev c22_32 : AC := .seq c22_30 c22_31
abbrev c22_33 : AC := .seq c22_9 c22_32
abbrev c22_34 : AC := .seq c22_8 c22_33
abbrev c22_35 : AC := .loop c22_34
abbrev c22_36 : AC := .block 0 c22_35
abbrev c22_37 : AC := .seq c22_7 c22_36
abbrev c22_38 : AC := .reg [⟨(some 4), .mv (.k (.B true)), none⟩] false
abbrev c22_39 : AC := .seq c22_38 .ret
abbrev c22_40 : AC := .seq c22_37 c22_39
abbrev c22_41 : AC := .seq c22_6 c22_40
abbrev c22_42 : AC := .seq c22_1 c22_41
abbrev c22 : AC := c22_42
theorem code22 : fnCode Try.prog 22 = some (c22, [4], 55) := by kernel_rfl
/- coinage/obstruction.Kind -/
abbrev c23_1 : AC := .reg [⟨(some 4), .mv (.k (.I 0)), none⟩] false
abbrev c23_2 : AC := .reg [⟨(some 8), .mv (.t 0), none⟩,
  ⟨(some 9), .mv (.t 1), none⟩,
  ⟨(some 10), .call 22 [(.t 8), (.t 9)], none⟩,
  ⟨(some 11), .not (.t 10), none⟩,
  ⟨(some 12), .mv (.t 11), none⟩,
  ⟨(some 13), .mv (.t 0), (some (12, false))⟩,
  ⟨(some 14), .mv (.t 1), (some (12, false))⟩,
  ⟨(some 15), .mv (.t 1), (some (12, false))⟩,
  ⟨(some 16), .len (.t 15), (some (12, false))⟩,
  ⟨(some 17), .call 39 [(.t 16)], (some (12, false))⟩,
  ⟨(some 18), .mv (.t 0), (some (12, false))⟩,
  ⟨(some 19), .call 39 [(.t 18)], (some (12, false))⟩,
  ⟨(some 20), .call 16 [(.t 13), (.t 14), (.t 17), (.t 19)], (some (12, false))⟩,
  ⟨(some 21), .not (.t 20), (some (12, false))⟩,
  ⟨(some 22), .pick (.t 12) (.k (.B true)) (.t 21), none⟩] false
abbrev c23_3 : AC := .reg [⟨(some 4), .mv (.k (.I 0)), none⟩] false
abbrev c23_4 : AC := .seq c23_3 .ret
abbrev c23_5 : AC := .cond (.t 22) c23_4 .skip
abbrev c23_6 : AC := .seq c23_2 c23_5
abbrev c23_7 : AC := .reg [⟨(some 23), .mv (.t 0), none⟩,
  ⟨(some 24), .mks 3 1 8 [(.sc (.int .i64 0))] (.t 23) (.t 23), none⟩,
  ⟨(some 5), .mv (.t 24), none⟩] false
abbrev c23_8 : AC := .reg [⟨(some 25), .mv (.t 1), none⟩,
  ⟨(some 26), .len (.t 25), none⟩,
  ⟨(some 27), .mv (.k (.I 0)), none⟩] false
abbrev c23_9 : AC := .reg [⟨(some 28), .bin .lss (.t 27) (.t 26), none⟩] false
abbrev c23_10 : AC := .cond (.t 28) .skip (.exit 0)
abbrev c23_11 : AC := .reg [⟨(some 29), .iad 1 (.t 25) (.t 27), none⟩,
  ⟨(some 30), .ld none (.t 29), none⟩,
  ⟨(some 7), .mv (.t 30), none⟩] false
abbrev c23_12 : AC := .reg [⟨(some 31), .mv (.t 7), none⟩,
  ⟨(some 32), .len (.t 31), none⟩,
  ⟨(some 33), .bin .neq (.t 32) (.k (.I 2)), none⟩] false
abbrev c23_13 : AC := .reg [⟨(some 4), .mv (.k (.I 2)), none⟩] false
abbrev c23_14 : AC := .seq c23_13 .ret
abbrev c23_15 : AC := .cond (.t 33) c23_14 .skip
abbrev c23_16 : AC := .seq c23_12 c23_15
abbrev c23_17 : AC := .reg [⟨(some 34), .mv (.t 5), none⟩,
  ⟨(some 35), .mv (.t 7), none⟩,
  ⟨(some 36), .iad 1 (.t 35) (.k (.I 0)), none⟩,
  ⟨(some 37), .ld none (.t 36), none⟩,
  ⟨(some 38), .iad 1 (.t 34) (.t 37), none⟩,
  ⟨(some 39), .ld none (.t 38), none⟩,
  ⟨(some 40), .bin .add (.t 39) (.k (.I 1)), none⟩,
  ⟨(some 41), .iad 1 (.t 34) (.t 37), none⟩,
  ⟨none, .st none (.t 41) (.t 40), none⟩] false
abbrev c23_18 : AC := .reg [⟨(some 42), .mv (.t 5), none⟩,
  ⟨(some 43), .mv (.t 7), none⟩,
  ⟨(some 44), .iad 1 (.t 43) (.k (.I 1)), none⟩,
  ⟨(some 45), .ld none (.t 44), none⟩,
  ⟨(some 46), .iad 1 (.t 42) (.t 45), none⟩,
  ⟨(some 47), .ld none (.t 46), none⟩,
  ⟨(some 48), .bin .add (.t 47) (.k (.I 1)), none⟩,
  ⟨(some 49), .iad 1 (.t 42) (.t 45), none⟩,
  ⟨none, .st none (.t 49) (.t 48), none⟩] false
abbrev c23_19 : AC := .seq c23_17 c23_18
abbrev c23_20 : AC := .seq c23_16 c23_19
abbrev c23_21 : AC := .seq c23_11 c23_20
abbrev c23_22 : AC := .block 1 c23_21
abbrev c23_23 : AC := .reg [⟨(some 50), .bin .add (.t 27) (.k (.I 1)), none⟩,
  ⟨(some 27), .mv (.t 50), none⟩] false
abbrev c23_24 : AC := .seq c23_22 c23_23
abbrev c23_25 : AC := .seq c23_10 c23_24
abbrev c23_26 : AC := .seq c23_9 c23_25
abbrev c23_27 : AC := .loop c23_26
abbrev c23_28 : AC := .block 0 c23_27
abbrev c23_29 : AC := .seq c23_8 c23_28
abbrev c23_30 : AC := .reg [⟨(some 51), .mv (.t 5), none⟩,
  ⟨(some 52), .call 40 [(.t 51), (.k (.fn 41 []))], none⟩] false
abbrev c23_31 : AC := .reg [⟨(some 4), .mv (.k (.I 2)), none⟩] false
abbrev c23_32 : AC := .seq c23_31 .ret
abbrev c23_33 : AC := .cond (.t 52) c23_32 .skip
abbrev c23_34 : AC := .seq c23_30 c23_33
abbrev c23_35 : AC := .reg [⟨(some 4), .mv (.k (.I 1)), none⟩] false
abbrev c23_36 : AC := .seq c23_35 .ret
abbrev c23_37 : AC := .seq c23_34 c23_36
abbrev c23_38 : AC := .seq c23_29 c23_37
abbrev c23_39 : AC := .seq c23_7 c23_38
abbrev c23_40 : AC := .seq c23_6 c23_39
abbrev c23_41 : AC := .seq c23_1 c23_40
abbrev c23 : AC := c23_41
theorem code23 : fnCode Try.prog 23 = some (c23, [4], 53) := by kernel_rfl
/- coinage/obstruction.Fewest -/
abbrev c24_1 : AC := .reg [⟨(some 4), .mv (.k (.c .nil)), none⟩,
  ⟨(some 5), .mv (.k (.I 0)), none⟩] false
abbrev c24_2 : AC := .reg [⟨(some 10), .mv (.t 0), none⟩,
  ⟨(some 11), .mv (.t 1), none⟩,
  ⟨(some 12), .call 22 [(.t 10), (.t 11)], none⟩,
  ⟨(some 13), .not (.t 12), none⟩,
  ⟨(some 9), .mv (.t 13), none⟩] false
abbrev c24_3 : AC := .reg [⟨(some 4), .mv (.k (.c .nil)), none⟩,
  ⟨(some 5), .mv (.k (.I 1)), none⟩] false
abbrev c24_4 : AC := .seq c24_3 .ret
abbrev c24_5 : AC := .reg [⟨(some 15), .mv (.t 1), none⟩,
  ⟨(some 16), .len (.t 15), none⟩,
  ⟨(some 17), .bin .gtr (.t 16) (.k (.I 8)), none⟩,
  ⟨(some 14), .mv (.t 17), none⟩] false
abbrev c24_6 : AC := .reg [⟨(some 4), .mv (.k (.c .nil)), none⟩,
  ⟨(some 5), .mv (.k (.I 6)), none⟩] false
abbrev c24_7 : AC := .seq c24_6 .ret
abbrev c24_8 : AC := .cond (.t 14) c24_7 .skip
abbrev c24_9 : AC := .seq c24_5 c24_8
abbrev c24_10 : AC := .cond (.t 9) c24_4 c24_9
abbrev c24_11 : AC := .seq c24_2 c24_10
abbrev c24_12 : AC := .block 0 c24_11
abbrev c24_13 : AC := .reg [⟨(some 18), .mv (.t 1), none⟩,
  ⟨(some 19), .len (.t 18), none⟩,
  ⟨(some 20), .bin .add (.t 19) (.k (.I 1)), none⟩,
  ⟨(some 21), .mv (.k (.I 0)), none⟩] false
abbrev c24_14 : AC := .reg [⟨(some 22), .bin .lss (.t 21) (.t 20), none⟩] false
abbrev c24_15 : AC := .cond (.t 22) .skip (.exit 1)
abbrev c24_16 : AC := .reg [⟨(some 23), .mv (.t 21), none⟩,
  ⟨(some 6), .mv (.t 23), none⟩] false
abbrev c24_17 : AC := .reg [⟨(some 25), .mv (.t 0), none⟩,
  ⟨(some 26), .mv (.t 1), none⟩,
  ⟨(some 27), .mv (.t 6), none⟩,
  ⟨(some 28), .call 42 [(.t 25), (.t 26), (.k (.c .nil)), (.t 27)], none⟩,
  ⟨(some 24), .mv (.t 28), none⟩,
  ⟨(some 29), .ext (.t 24) 0, none⟩,
  ⟨(some 30), .ext (.t 24) 1, none⟩,
  ⟨(some 7), .mv (.t 29), none⟩,
  ⟨(some 8), .mv (.t 30), none⟩] false
abbrev c24_18 : AC := .reg [⟨(some 31), .mv (.t 8), none⟩] false
abbrev c24_19 : AC := .reg [⟨(some 32), .mv (.t 7), none⟩,
  ⟨(some 4), .mv (.t 32), none⟩,
  ⟨(some 5), .mv (.k (.I 0)), none⟩] false
abbrev c24_20 : AC := .seq c24_19 .ret
abbrev c24_21 : AC := .cond (.t 31) c24_20 .skip
abbrev c24_22 : AC := .seq c24_18 c24_21
abbrev c24_23 : AC := .seq c24_17 c24_22
abbrev c24_24 : AC := .seq c24_16 c24_23
abbrev c24_25 : AC := .block 2 c24_24
abbrev c24_26 : AC := .reg [⟨(some 33), .bin .add (.t 21) (.k (.I 1)), none⟩,
  ⟨(some 21), .mv (.t 33), none⟩] false
abbrev c24_27 : AC := .seq c24_25 c24_26
abbrev c24_28 : AC := .seq c24_15 c24_27
abbrev c24_29 : AC := .seq c24_14 c24_28
abbrev c24_30 : AC := .loop c24_29
abbrev c24_31 : AC := .block 1 c24_30
abbrev c24_32 : AC := .seq c24_13 c24_31
abbrev c24_33 : AC := .reg [⟨(some 4), .mv (.k (.c .nil)), none⟩,
  ⟨(some 5), .mv (.k (.I 7)), none⟩] false
abbrev c24_34 : AC := .seq c24_33 .ret
abbrev c24_35 : AC := .seq c24_32 c24_34
abbrev c24_36 : AC := .seq c24_12 c24_35
abbrev c24_37 : AC := .seq c24_1 c24_36
abbrev c24 : AC := c24_37
theorem code24 : fnCode Try.prog 24 = some (c24, [4, 5], 34) := by kernel_rfl
/- coinage/coinageref29.Find -/
abbrev c25_1 : AC := .reg [⟨(some 4), .mv (.k (.c .nil)), none⟩,
  ⟨(some 5), .mv (.k (.c .nil)), none⟩,
  ⟨(some 6), .mv (.k (.I 0)), none⟩] false
abbrev c25_2 : AC := .reg [⟨(some 13), .mv (.t 0), none⟩,
  ⟨(some 14), .mv (.t 1), none⟩,
  ⟨(some 15), .call 18 [(.t 13), (.t 14)], none⟩,
  ⟨(some 16), .not (.t 15), none⟩] false
abbrev c25_3 : AC := .reg [⟨(some 4), .mv (.k (.c .nil)), none⟩,
  ⟨(some 5), .mv (.k (.c .nil)), none⟩,
  ⟨(some 6), .mv (.k (.I 1)), none⟩] false
abbrev c25_4 : AC := .seq c25_3 .ret
abbrev c25_5 : AC := .cond (.t 16) c25_4 .skip
abbrev c25_6 : AC := .seq c25_2 c25_5
abbrev c25_7 : AC := .reg [⟨(some 17), .mv (.t 1), none⟩,
  ⟨(some 18), .len (.t 17), none⟩,
  ⟨(some 19), .call 43 [(.t 18)], none⟩,
  ⟨(some 20), .mv (.t 0), none⟩,
  ⟨(some 21), .call 43 [(.t 20)], none⟩,
  ⟨(some 7), .mv (.t 19), none⟩,
  ⟨(some 8), .mv (.t 21), none⟩] false
abbrev c25_8 : AC := .reg [⟨(some 22), .mv (.t 0), none⟩,
  ⟨(some 23), .mv (.t 1), none⟩,
  ⟨(some 24), .mv (.t 7), none⟩,
  ⟨(some 25), .mv (.t 8), none⟩,
  ⟨(some 26), .call 15 [(.t 22), (.t 23), (.t 24), (.t 25)], none⟩,
  ⟨(some 27), .not (.t 26), none⟩] false
abbrev c25_9 : AC := .reg [⟨(some 4), .mv (.k (.c .nil)), none⟩,
  ⟨(some 5), .mv (.k (.c .nil)), none⟩,
  ⟨(some 6), .mv (.k (.I 7)), none⟩] false
abbrev c25_10 : AC := .seq c25_9 .ret
abbrev c25_11 : AC := .cond (.t 27) c25_10 .skip
abbrev c25_12 : AC := .seq c25_8 c25_11
abbrev c25_13 : AC := .reg [⟨(some 28), .mv (.t 7), none⟩,
  ⟨(some 29), .len (.t 28), none⟩,
  ⟨(some 30), .bin .sub (.t 29) (.k (.I 1)), none⟩,
  ⟨(some 9), .mv (.t 30), none⟩] false
abbrev c25_14 : AC := .reg [⟨(some 31), .mv (.t 9), none⟩,
  ⟨(some 32), .bin .geq (.t 31) (.k (.I 0)), none⟩] false
abbrev c25_15 : AC := .cond (.t 32) .skip (.exit 0)
abbrev c25_16 : AC := .seq c25_14 c25_15
abbrev c25_17 : AC := .reg [⟨(some 35), .mv (.t 7), none⟩,
  ⟨(some 36), .mv (.t 9), none⟩,
  ⟨(some 37), .call 36 [(.t 35), (.t 36)], none⟩,
  ⟨(some 10), .mv (.t 37), none⟩] false
abbrev c25_18 : AC := .reg [⟨(some 38), .mv (.t 0), none⟩,
  ⟨(some 39), .mv (.t 1), none⟩,
  ⟨(some 40), .mv (.t 10), none⟩,
  ⟨(some 41), .mv (.t 8), none⟩,
  ⟨(some 42), .call 15 [(.t 38), (.t 39), (.t 40), (.t 41)], none⟩] false
abbrev c25_19 : AC := .reg [⟨(some 43), .mv (.t 10), none⟩,
  ⟨(some 7), .mv (.t 43), none⟩] false
abbrev c25_20 : AC := .cond (.t 42) c25_19 .skip
abbrev c25_21 : AC := .seq c25_18 c25_20
abbrev c25_22 : AC := .seq c25_17 c25_21
abbrev c25_23 : AC := .block 1 c25_22
abbrev c25_24 : AC := .reg [⟨(some 33), .mv (.t 9), none⟩,
  ⟨(some 34), .bin .sub (.t 33) (.k (.I 1)), none⟩,
  ⟨(some 9), .mv (.t 34), none⟩] false
abbrev c25_25 : AC := .seq c25_23 c25_24
abbrev c25_26 : AC := .seq c25_16 c25_25
abbrev c25_27 : AC := .loop c25_26
abbrev c25_28 : AC := .block 0 c25_27
abbrev c25_29 : AC := .seq c25_13 c25_28
abbrev c25_30 : AC := .reg [⟨(some 44), .mv (.t 8), none⟩,
  ⟨(some 45), .len (.t 44), none⟩,
  ⟨(some 46), .bin .sub (.t 45) (.k (.I 1)), none⟩,
  ⟨(some 11), .mv (.t 46), none⟩] false
abbrev c25_31 : AC := .reg [⟨(some 47), .mv (.t 11), none⟩,
  ⟨(some 48), .bin .geq (.t 47) (.k (.I 0)), none⟩] false
abbrev c25_32 : AC := .cond (.t 48) .skip (.exit 2)
abbrev c25_33 : AC := .seq c25_31 c25_32
abbrev c25_34 : AC := .reg [⟨(some 51), .mv (.t 8), none⟩,
  ⟨(some 52), .mv (.t 11), none⟩,
  ⟨(some 53), .call 36 [(.t 51), (.t 52)], none⟩,
  ⟨(some 12), .mv (.t 53), none⟩] false
abbrev c25_35 : AC := .reg [⟨(some 54), .mv (.t 0), none⟩,
  ⟨(some 55), .mv (.t 1), none⟩,
  ⟨(some 56), .mv (.t 7), none⟩,
  ⟨(some 57), .mv (.t 12), none⟩,
  ⟨(some 58), .call 15 [(.t 54), (.t 55), (.t 56), (.t 57)], none⟩] false
abbrev c25_36 : AC := .reg [⟨(some 59), .mv (.t 12), none⟩,
  ⟨(some 8), .mv (.t 59), none⟩] false
abbrev c25_37 : AC := .cond (.t 58) c25_36 .skip
abbrev c25_38 : AC := .seq c25_35 c25_37
abbrev c25_39 : AC := .seq c25_34 c25_38
abbrev c25_40 : AC := .block 3 c25_39
abbrev c25_41 : AC := .reg [⟨(some 49), .mv (.t 11), none⟩,
  ⟨(some 50), .bin .sub (.t 49) (.k (.I 1)), none⟩,
  ⟨(some 11), .mv (.t 50), none⟩] false
abbrev c25_42 : AC := .seq c25_40 c25_41
abbrev c25_43 : AC := .seq c25_33 c25_42
abbrev c25_44 : AC := .loop c25_43
abbrev c25_45 : AC := .block 2 c25_44
abbrev c25_46 : AC := .seq c25_30 c25_45
abbrev c25_47 : AC := .reg [⟨(some 60), .mv (.t 7), none⟩,
  ⟨(some 61), .mv (.t 8), none⟩,
  ⟨(some 4), .mv (.t 60), none⟩,
  ⟨(some 5), .mv (.t 61), none⟩,
  ⟨(some 6), .mv (.k (.I 0)), none⟩] false
abbrev c25_48 : AC := .seq c25_47 .ret
abbrev c25_49 : AC := .seq c25_46 c25_48
abbrev c25_50 : AC := .seq c25_29 c25_49
abbrev c25_51 : AC := .seq c25_12 c25_50
abbrev c25_52 : AC := .seq c25_7 c25_51
abbrev c25_53 : AC := .seq c25_6 c25_52
abbrev c25_54 : AC := .seq c25_1 c25_53
abbrev c25 : AC := c25_54
theorem code25 : fnCode Try.prog 25 = some (c25, [4, 5, 6], 62) := by kernel_rfl
/- coinage/coinageref29.Fewest -/
abbrev c26_1 : AC := .reg [⟨(some 4), .mv (.k (.c .nil)), none⟩,
  ⟨(some 5), .mv (.k (.I 0)), none⟩] false
abbrev c26_2 : AC := .reg [⟨(some 8), .mv (.t 0), none⟩,
  ⟨(some 9), .mv (.t 1), none⟩,
  ⟨(some 10), .call 18 [(.t 8), (.t 9)], none⟩,
  ⟨(some 11), .not (.t 10), none⟩] false
abbrev c26_3 : AC := .reg [⟨(some 4), .mv (.k (.c .nil)), none⟩,
  ⟨(some 5), .mv (.k (.I 1)), none⟩] false
abbrev c26_4 : AC := .seq c26_3 .ret
abbrev c26_5 : AC := .cond (.t 11) c26_4 .skip
abbrev c26_6 : AC := .seq c26_2 c26_5
abbrev c26_7 : AC := .reg [⟨(some 12), .mv (.t 1), none⟩,
  ⟨(some 13), .len (.t 12), none⟩,
  ⟨(some 14), .bin .gtr (.t 13) (.k (.I 8)), none⟩] false
abbrev c26_8 : AC := .reg [⟨(some 4), .mv (.k (.c .nil)), none⟩,
  ⟨(some 5), .mv (.k (.I 6)), none⟩] false
abbrev c26_9 : AC := .seq c26_8 .ret
abbrev c26_10 : AC := .cond (.t 14) c26_9 .skip
abbrev c26_11 : AC := .seq c26_7 c26_10
abbrev c26_12 : AC := .reg [⟨(some 15), .mv (.t 0), none⟩,
  ⟨(some 16), .mv (.t 1), none⟩,
  ⟨(some 17), .call 34 [(.t 15), (.t 16)], none⟩] false
abbrev c26_13 : AC := .reg [⟨(some 4), .mv (.k (.c .nil)), none⟩,
  ⟨(some 5), .mv (.k (.I 7)), none⟩] false
abbrev c26_14 : AC := .seq c26_13 .ret
abbrev c26_15 : AC := .cond (.t 17) c26_14 .skip
abbrev c26_16 : AC := .seq c26_12 c26_15
abbrev c26_17 : AC := .reg [⟨(some 6), .mv (.k (.I 1)), none⟩] false
abbrev c26_18 : AC := .reg [⟨(some 18), .mv (.t 6), none⟩,
  ⟨(some 19), .mv (.t 1), none⟩,
  ⟨(some 20), .len (.t 19), none⟩,
  ⟨(some 21), .bin .lss (.t 18) (.t 20), none⟩] false
abbrev c26_19 : AC := .cond (.t 21) .skip (.exit 0)
abbrev c26_20 : AC := .seq c26_18 c26_19
abbrev c26_21 : AC := .reg [⟨(some 24), .mv (.t 0), none⟩,
  ⟨(some 25), .mv (.t 1), none⟩,
  ⟨(some 26), .mv (.t 6), none⟩,
  ⟨(some 27), .call 44 [(.t 24), (.t 25), (.k (.c .nil)), (.k (.I 0)), (.t 26)], none⟩,
  ⟨(some 7), .mv (.t 27), none⟩] false
abbrev c26_22 : AC := .reg [⟨(some 28), .mv (.t 7), none⟩,
  ⟨(some 29), .isnil true (.t 28), none⟩] false
abbrev c26_23 : AC := .reg [⟨(some 30), .mv (.t 7), none⟩,
  ⟨(some 4), .mv (.t 30), none⟩,
  ⟨(some 5), .mv (.k (.I 0)), none⟩] false
abbrev c26_24 : AC := .seq c26_23 .ret
abbrev c26_25 : AC := .cond (.t 29) c26_24 .skip
abbrev c26_26 : AC := .seq c26_22 c26_25
abbrev c26_27 : AC := .seq c26_21 c26_26
abbrev c26_28 : AC := .block 1 c26_27
abbrev c26_29 : AC := .reg [⟨(some 22), .mv (.t 6), none⟩,
  ⟨(some 23), .bin .add (.t 22) (.k (.I 1)), none⟩,
  ⟨(some 6), .mv (.t 23), none⟩] false
abbrev c26_30 : AC := .seq c26_28 c26_29
abbrev c26_31 : AC := .seq c26_20 c26_30
abbrev c26_32 : AC := .loop c26_31
abbrev c26_33 : AC := .block 0 c26_32
abbrev c26_34 : AC := .seq c26_17 c26_33
abbrev c26_35 : AC := .reg [⟨(some 31), .mv (.t 1), none⟩,
  ⟨(some 32), .len (.t 31), none⟩,
  ⟨(some 33), .call 43 [(.t 32)], none⟩,
  ⟨(some 4), .mv (.t 33), none⟩,
  ⟨(some 5), .mv (.k (.I 0)), none⟩] false
abbrev c26_36 : AC := .seq c26_35 .ret
abbrev c26_37 : AC := .seq c26_34 c26_36
abbrev c26_38 : AC := .seq c26_16 c26_37
abbrev c26_39 : AC := .seq c26_11 c26_38
abbrev c26_40 : AC := .seq c26_6 c26_39
abbrev c26_41 : AC := .seq c26_1 c26_40
abbrev c26 : AC := c26_41
theorem code26 : fnCode Try.prog 26 = some (c26, [4, 5], 34) := by kernel_rfl
/- coinage/coinagebase.Ints -/
abbrev c27_1 : AC := .reg [⟨(some 4), .mv (.k (.B false)), none⟩] false
abbrev c27_2 : AC := .reg [⟨(some 6), .mv (.t 0), none⟩,
  ⟨(some 7), .len (.t 6), none⟩,
  ⟨(some 8), .mv (.t 1), none⟩,
  ⟨(some 9), .len (.t 8), none⟩,
  ⟨(some 10), .bin .neq (.t 7) (.t 9), none⟩] false
abbrev c27_3 : AC := .reg [⟨(some 4), .mv (.k (.B false)), none⟩] false
abbrev c27_4 : AC := .seq c27_3 .ret
abbrev c27_5 : AC := .cond (.t 10) c27_4 .skip
abbrev c27_6 : AC := .seq c27_2 c27_5
abbrev c27_7 : AC := .reg [⟨(some 5), .mv (.k (.I 0)), none⟩] false
abbrev c27_8 : AC := .reg [⟨(some 11), .mv (.t 5), none⟩,
  ⟨(some 12), .mv (.t 0), none⟩,
  ⟨(some 13), .len (.t 12), none⟩,
  ⟨(some 14), .bin .lss (.t 11) (.t 13), none⟩] false
abbrev c27_9 : AC := .cond (.t 14) .skip (.exit 0)
abbrev c27_10 : AC := .seq c27_8 c27_9
abbrev c27_11 : AC := .regD [(⟨(some 17), .mv (.t 0), none⟩, [0]),
  (⟨(some 18), .mv (.t 5), none⟩, [5]),
  (⟨(some 19), .iad 1 (.t 17) (.t 18), none⟩, [17, 18]),
  (⟨(some 20), .ld none (.t 19), none⟩, [19]),
  (⟨(some 21), .mv (.t 1), none⟩, [1]),
  (⟨(some 22), .mv (.t 5), none⟩, [5]),
  (⟨(some 23), .iad 1 (.t 21) (.t 22), none⟩, [21, 22]),
  (⟨(some 24), .ld none (.t 23), none⟩, [23]),
  (⟨(some 25), .bin .neq (.t 20) (.t 24), none⟩, [20, 24])]
abbrev c27_12 : AC := .reg [⟨(some 4), .mv (.k (.B false)), none⟩] false
abbrev c27_13 : AC := .seq c27_12 .ret
abbrev c27_14 : AC := .cond (.t 25) c27_13 .skip
abbrev c27_15 : AC := .seq c27_11 c27_14
abbrev c27_16 : AC := .block 1 c27_15
abbrev c27_17 : AC := .reg [⟨(some 15), .mv (.t 5), none⟩,
  ⟨(some 16), .bin .add (.t 15) (.k (.I 1)), none⟩,
  ⟨(some 5), .mv (.t 16), none⟩] false
abbrev c27_18 : AC := .seq c27_16 c27_17
abbrev c27_19 : AC := .seq c27_10 c27_18
abbrev c27_20 : AC := .loop c27_19
abbrev c27_21 : AC := .block 0 c27_20
abbrev c27_22 : AC := .seq c27_7 c27_21
abbrev c27_23 : AC := .reg [⟨(some 4), .mv (.k (.B true)), none⟩] false
abbrev c27_24 : AC := .seq c27_23 .ret
abbrev c27_25 : AC := .seq c27_22 c27_24
abbrev c27_26 : AC := .seq c27_6 c27_25
abbrev c27_27 : AC := .seq c27_1 c27_26
abbrev c27 : AC := c27_27
theorem code27 : fnCode Try.prog 27 = some (c27, [4], 26) := by kernel_rfl
/- coinage/coinageref29.Kind -/
abbrev c28_1 : AC := .reg [⟨(some 4), .mv (.k (.I 0)), none⟩] false
abbrev c28_2 : AC := .reg [⟨(some 8), .mv (.t 0), none⟩,
  ⟨(some 9), .mv (.t 1), none⟩,
  ⟨(some 10), .call 18 [(.t 8), (.t 9)], none⟩,
  ⟨(some 11), .not (.t 10), none⟩,
  ⟨(some 12), .mv (.t 11), none⟩,
  ⟨(some 13), .mv (.t 0), (some (12, false))⟩,
  ⟨(some 14), .mv (.t 1), (some (12, false))⟩,
  ⟨(some 15), .mv (.t 1), (some (12, false))⟩,
  ⟨(some 16), .len (.t 15), (some (12, false))⟩,
  ⟨(some 17), .call 43 [(.t 16)], (some (12, false))⟩,
  ⟨(some 18), .mv (.t 0), (some (12, false))⟩,
  ⟨(some 19), .call 43 [(.t 18)], (some (12, false))⟩,
  ⟨(some 20), .call 17 [(.t 13), (.t 14), (.t 17), (.t 19)], (some (12, false))⟩,
  ⟨(some 21), .not (.t 20), (some (12, false))⟩,
  ⟨(some 22), .pick (.t 12) (.k (.B true)) (.t 21), none⟩] false
abbrev c28_3 : AC := .reg [⟨(some 4), .mv (.k (.I 0)), none⟩] false
abbrev c28_4 : AC := .seq c28_3 .ret
abbrev c28_5 : AC := .cond (.t 22) c28_4 .skip
abbrev c28_6 : AC := .seq c28_2 c28_5
abbrev c28_7 : AC := .reg [⟨(some 23), .mv (.t 0), none⟩,
  ⟨(some 24), .mks 3 1 8 [(.sc (.int .i64 0))] (.t 23) (.t 23), none⟩,
  ⟨(some 5), .mv (.t 24), none⟩] false
abbrev c28_8 : AC := .reg [⟨(some 6), .mv (.k (.I 0)), none⟩] false
abbrev c28_9 : AC := .reg [⟨(some 25), .mv (.t 6), none⟩,
  ⟨(some 26), .mv (.t 1), none⟩,
  ⟨(some 27), .len (.t 26), none⟩,
  ⟨(some 28), .bin .lss (.t 25) (.t 27), none⟩] false
abbrev c28_10 : AC := .cond (.t 28) .skip (.exit 0)
abbrev c28_11 : AC := .seq c28_9 c28_10
abbrev c28_12 : AC := .reg [⟨(some 31), .mv (.t 1), none⟩,
  ⟨(some 32), .mv (.t 6), none⟩,
  ⟨(some 33), .iad 1 (.t 31) (.t 32), none⟩,
  ⟨(some 34), .ld none (.t 33), none⟩,
  ⟨(some 35), .len (.t 34), none⟩,
  ⟨(some 36), .bin .neq (.t 35) (.k (.I 2)), none⟩] false
abbrev c28_13 : AC := .reg [⟨(some 4), .mv (.k (.I 2)), none⟩] false
abbrev c28_14 : AC := .seq c28_13 .ret
abbrev c28_15 : AC := .cond (.t 36) c28_14 .skip
abbrev c28_16 : AC := .seq c28_12 c28_15
abbrev c28_17 : AC := .reg [⟨(some 37), .mv (.t 5), none⟩,
  ⟨(some 38), .mv (.t 1), none⟩,
  ⟨(some 39), .mv (.t 6), none⟩,
  ⟨(some 40), .iad 1 (.t 38) (.t 39), none⟩,
  ⟨(some 41), .ld none (.t 40), none⟩,
  ⟨(some 42), .iad 1 (.t 41) (.k (.I 0)), none⟩,
  ⟨(some 43), .ld none (.t 42), none⟩,
  ⟨(some 44), .iad 1 (.t 37) (.t 43), none⟩,
  ⟨(some 45), .ld none (.t 44), none⟩,
  ⟨(some 46), .bin .add (.t 45) (.k (.I 1)), none⟩,
  ⟨(some 47), .iad 1 (.t 37) (.t 43), none⟩,
  ⟨none, .st none (.t 47) (.t 46), none⟩] false
abbrev c28_18 : AC := .reg [⟨(some 48), .mv (.t 5), none⟩,
  ⟨(some 49), .mv (.t 1), none⟩,
  ⟨(some 50), .mv (.t 6), none⟩,
  ⟨(some 51), .iad 1 (.t 49) (.t 50), none⟩,
  ⟨(some 52), .ld none (.t 51), none⟩,
  ⟨(some 53), .iad 1 (.t 52) (.k (.I 1)), none⟩,
  ⟨(some 54), .ld none (.t 53), none⟩,
  ⟨(some 55), .iad 1 (.t 48) (.t 54), none⟩,
  ⟨(some 56), .ld none (.t 55), none⟩,
  ⟨(some 57), .bin .add (.t 56) (.k (.I 1)), none⟩,
  ⟨(some 58), .iad 1 (.t 48) (.t 54), none⟩,
  ⟨none, .st none (.t 58) (.t 57), none⟩] false
abbrev c28_19 : AC := .seq c28_17 c28_18
abbrev c28_20 : AC := .seq c28_16 c28_19
abbrev c28_21 : AC := .block 1 c28_20
abbrev c28_22 : AC := .reg [⟨(some 29), .mv (.t 6), none⟩,
  ⟨(some 30), .bin .add (.t 29) (.k (.I 1)), none⟩,
  ⟨(some 6), .mv (.t 30), none⟩] false
abbrev c28_23 : AC := .seq c28_21 c28_22
abbrev c28_24 : AC := .seq c28_11 c28_23
abbrev c28_25 : AC := .loop c28_24
abbrev c28_26 : AC := .block 0 c28_25
abbrev c28_27 : AC := .seq c28_8 c28_26
abbrev c28_28 : AC := .reg [⟨(some 7), .mv (.k (.I 0)), none⟩] false
abbrev c28_29 : AC := .reg [⟨(some 59), .mv (.t 7), none⟩,
  ⟨(some 60), .mv (.t 0), none⟩,
  ⟨(some 61), .bin .lss (.t 59) (.t 60), none⟩] false
abbrev c28_30 : AC := .cond (.t 61) .skip (.exit 2)
abbrev c28_31 : AC := .seq c28_29 c28_30
abbrev c28_32 : AC := .reg [⟨(some 64), .mv (.t 5), none⟩,
  ⟨(some 65), .mv (.t 7), none⟩,
  ⟨(some 66), .iad 1 (.t 64) (.t 65), none⟩,
  ⟨(some 67), .ld none (.t 66), none⟩,
  ⟨(some 68), .bin .neq (.t 67) (.k (.I 2)), none⟩] false
abbrev c28_33 : AC := .reg [⟨(some 4), .mv (.k (.I 2)), none⟩] false
abbrev c28_34 : AC := .seq c28_33 .ret
abbrev c28_35 : AC := .cond (.t 68) c28_34 .skip
abbrev c28_36 : AC := .seq c28_32 c28_35
abbrev c28_37 : AC := .block 3 c28_36
abbrev c28_38 : AC := .reg [⟨(some 62), .mv (.t 7), none⟩,
  ⟨(some 63), .bin .add (.t 62) (.k (.I 1)), none⟩,
  ⟨(some 7), .mv (.t 63), none⟩] false
abbrev c28_39 : AC := .seq c28_37 c28_38
abbrev c28_40 : AC := .seq c28_31 c28_39
abbrev c28_41 : AC := .loop c28_40
abbrev c28_42 : AC := .block 2 c28_41
abbrev c28_43 : AC := .seq c28_28 c28_42
abbrev c28_44 : AC := .reg [⟨(some 4), .mv (.k (.I 1)), none⟩] false
abbrev c28_45 : AC := .seq c28_44 .ret
abbrev c28_46 : AC := .seq c28_43 c28_45
abbrev c28_47 : AC := .seq c28_27 c28_46
abbrev c28_48 : AC := .seq c28_7 c28_47
abbrev c28_49 : AC := .seq c28_6 c28_48
abbrev c28_50 : AC := .seq c28_1 c28_49
abbrev c28 : AC := c28_50
theorem code28 : fnCode Try.prog 28 = some (c28, [4], 69) := by kernel_rfl
/- coinage/consecutive.First -/
abbrev c38_1 : AC := .reg [⟨(some 4), .mv (.k (.c .nil)), none⟩,
  ⟨(some 5), .mv (.k (.I 0)), none⟩] false
abbrev c38_2 : AC := .reg [⟨(some 8), .mv (.t 0), none⟩,
  ⟨(some 9), .mv (.t 1), none⟩,
  ⟨(some 10), .call 22 [(.t 8), (.t 9)], none⟩,
  ⟨(some 11), .not (.t 10), none⟩] false
abbrev c38_3 : AC := .reg [⟨(some 4), .mv (.k (.c .nil)), none⟩,
  ⟨(some 5), .mv (.k (.I 1)), none⟩] false
abbrev c38_4 : AC := .seq c38_3 .ret
abbrev c38_5 : AC := .cond (.t 11) c38_4 .skip
abbrev c38_6 : AC := .seq c38_2 c38_5
abbrev c38_7 : AC := .reg [⟨(some 6), .alloc 23 [(.c .nil)], none⟩] false
abbrev c38_8 : AC := .reg [⟨(some 7), .alloc 4 [(.B false)], none⟩,
  ⟨none, .st none (.t 7) (.k (.B false)), none⟩] false
abbrev c38_9 : AC := .reg [⟨(some 12), .mv (.t 0), none⟩,
  ⟨(some 13), .mv (.t 1), none⟩,
  ⟨(some 14), .mkfn 51 [(.t 6), (.t 7)], none⟩,
  ⟨(some 15), .call 50 [(.t 12), (.t 13), (.t 14)], none⟩] false
abbrev c38_10 : AC := .reg [⟨(some 16), .ld none (.t 7), none⟩,
  ⟨(some 17), .not (.t 16), none⟩] false
abbrev c38_11 : AC := .reg [⟨(some 4), .mv (.k (.c .nil)), none⟩,
  ⟨(some 5), .mv (.k (.I 7)), none⟩] false
abbrev c38_12 : AC := .seq c38_11 .ret
abbrev c38_13 : AC := .cond (.t 17) c38_12 .skip
abbrev c38_14 : AC := .seq c38_10 c38_13
abbrev c38_15 : AC := .reg [⟨(some 18), .ld none (.t 6), none⟩,
  ⟨(some 4), .mv (.t 18), none⟩,
  ⟨(some 5), .mv (.k (.I 0)), none⟩] false
abbrev c38_16 : AC := .seq c38_15 .ret
abbrev c38_17 : AC := .seq c38_14 c38_16
abbrev c38_18 : AC := .seq c38_9 c38_17
abbrev c38_19 : AC := .seq c38_8 c38_18
abbrev c38_20 : AC := .seq c38_7 c38_19
abbrev c38_21 : AC := .seq c38_6 c38_20
abbrev c38_22 : AC := .seq c38_1 c38_21
abbrev c38 : AC := c38_22
theorem code38 : fnCode Try.prog 38 = some (c38, [4, 5], 19) := by kernel_rfl
/- coinage/coinageref27.Possible -/
abbrev c34_1 : AC := .reg [⟨(some 4), .mv (.k (.B false)), none⟩] false
abbrev c34_2 : AC := .reg [⟨(some 5), .mv (.t 0), none⟩,
  ⟨(some 6), .mv (.t 1), none⟩,
  ⟨(some 7), .call 18 [(.t 5), (.t 6)], none⟩,
  ⟨(some 8), .mv (.t 7), none⟩,
  ⟨(some 9), .mv (.t 0), (some (8, true))⟩,
  ⟨(some 10), .mv (.t 1), (some (8, true))⟩,
  ⟨(some 11), .call 47 [(.t 9), (.t 10)], (some (8, true))⟩,
  ⟨(some 12), .len (.t 11), (some (8, true))⟩,
  ⟨(some 13), .bin .gtr (.t 12) (.k (.I 0)), (some (8, true))⟩,
  ⟨(some 14), .pick (.t 8) (.t 13) (.k (.B false)), none⟩,
  ⟨(some 4), .mv (.t 14), none⟩] false
abbrev c34_3 : AC := .seq c34_2 .ret
abbrev c34_4 : AC := .seq c34_1 c34_3
abbrev c34 : AC := c34_4
theorem code34 : fnCode Try.prog 34 = some (c34, [4], 15) := by kernel_rfl
/- coinage/coinageref27.Runs -/
abbrev c58_1 : AC := .reg [⟨(some 6), .mv (.k (.c .nil)), none⟩,
  ⟨(some 7), .mv (.k (.I 0)), none⟩] false
abbrev c58_2 : AC := .reg [⟨(some 10), .mv (.t 0), none⟩,
  ⟨(some 11), .mv (.t 1), none⟩,
  ⟨(some 12), .call 18 [(.t 10), (.t 11)], none⟩,
  ⟨(some 13), .not (.t 12), none⟩] false
abbrev c58_3 : AC := .reg [⟨(some 6), .mv (.k (.c .nil)), none⟩,
  ⟨(some 7), .mv (.k (.I 1)), none⟩] false
abbrev c58_4 : AC := .seq c58_3 .ret
abbrev c58_5 : AC := .cond (.t 13) c58_4 .skip
abbrev c58_6 : AC := .seq c58_2 c58_5
abbrev c58_7 : AC := .reg [⟨(some 14), .mv (.t 2), none⟩,
  ⟨(some 15), .mv (.t 0), none⟩,
  ⟨(some 16), .call 59 [(.t 14), (.t 15)], none⟩,
  ⟨(some 17), .not (.t 16), none⟩] false
abbrev c58_8 : AC := .reg [⟨(some 6), .mv (.k (.c .nil)), none⟩,
  ⟨(some 7), .mv (.k (.I 2)), none⟩] false
abbrev c58_9 : AC := .seq c58_8 .ret
abbrev c58_10 : AC := .cond (.t 17) c58_9 .skip
abbrev c58_11 : AC := .seq c58_7 c58_10
abbrev c58_12 : AC := .reg [⟨(some 8), .mv (.k (.c .nil)), none⟩] false
abbrev c58_13 : AC := .reg [⟨(some 9), .mv (.k (.I 0)), none⟩] false
abbrev c58_14 : AC := .reg [⟨(some 18), .mv (.t 9), none⟩,
  ⟨(some 19), .mv (.t 1), none⟩,
  ⟨(some 20), .len (.t 19), none⟩,
  ⟨(some 21), .bin .lss (.t 18) (.t 20), none⟩] false
abbrev c58_15 : AC := .cond (.t 21) .skip (.exit 0)
abbrev c58_16 : AC := .seq c58_14 c58_15
abbrev c58_17 : AC := .reg [⟨(some 24), .mv (.t 8), none⟩,
  ⟨(some 25), .mv (.t 1), none⟩,
  ⟨(some 26), .mv (.t 9), none⟩,
  ⟨(some 27), .iad 1 (.t 25) (.t 26), none⟩,
  ⟨(some 28), .ld none (.t 27), none⟩,
  ⟨(some 29), .mv (.t 2), none⟩,
  ⟨(some 30), .call 60 [(.t 28), (.t 29)], none⟩,
  ⟨(some 31), .bslice 3 1 [(.t 30)], none⟩,
  ⟨(some 32), .app 3 1 8 (.t 24) (.t 31), none⟩,
  ⟨(some 8), .mv (.t 32), none⟩] false
abbrev c58_18 : AC := .block 1 c58_17
abbrev c58_19 : AC := .reg [⟨(some 22), .mv (.t 9), none⟩,
  ⟨(some 23), .bin .add (.t 22) (.k (.I 1)), none⟩,
  ⟨(some 9), .mv (.t 23), none⟩] false
abbrev c58_20 : AC := .seq c58_18 c58_19
abbrev c58_21 : AC := .seq c58_16 c58_20
abbrev c58_22 : AC := .loop c58_21
abbrev c58_23 : AC := .block 0 c58_22
abbrev c58_24 : AC := .seq c58_13 c58_23
abbrev c58_25 : AC := .reg [⟨(some 33), .mv (.t 8), none⟩,
  ⟨(some 6), .mv (.t 33), none⟩,
  ⟨(some 7), .mv (.k (.I 0)), none⟩] false
abbrev c58_26 : AC := .seq c58_25 .ret
abbrev c58_27 : AC := .seq c58_24 c58_26
abbrev c58_28 : AC := .seq c58_12 c58_27
abbrev c58_29 : AC := .seq c58_11 c58_28
abbrev c58_30 : AC := .seq c58_6 c58_29
abbrev c58_31 : AC := .seq c58_1 c58_30
abbrev c58 : AC := c58_31
theorem code58 : fnCode Try.prog 58 = some (c58, [6, 7], 34) := by kernel_rfl
/- coinage/coinageref27.Gaps -/
abbrev c56_1 : AC := .reg [⟨(some 6), .mv (.k (.I 0)), none⟩,
  ⟨(some 7), .mv (.k (.I 0)), none⟩] false
abbrev c56_2 : AC := .reg [⟨(some 13), .mv (.t 0), none⟩,
  ⟨(some 14), .mv (.t 1), none⟩,
  ⟨(some 15), .mv (.t 2), none⟩,
  ⟨(some 16), .call 58 [(.t 13), (.t 14), (.t 15)], none⟩,
  ⟨(some 12), .mv (.t 16), none⟩,
  ⟨(some 17), .ext (.t 12) 0, none⟩,
  ⟨(some 18), .ext (.t 12) 1, none⟩,
  ⟨(some 8), .mv (.t 17), none⟩,
  ⟨(some 9), .mv (.t 18), none⟩] false
abbrev c56_3 : AC := .reg [⟨(some 19), .mv (.t 9), none⟩,
  ⟨(some 20), .bin .neq (.t 19) (.k (.I 0)), none⟩] false
abbrev c56_4 : AC := .reg [⟨(some 21), .mv (.t 9), none⟩,
  ⟨(some 6), .mv (.k (.I 0)), none⟩,
  ⟨(some 7), .mv (.t 21), none⟩] false
abbrev c56_5 : AC := .seq c56_4 .ret
abbrev c56_6 : AC := .cond (.t 20) c56_5 .skip
abbrev c56_7 : AC := .seq c56_3 c56_6
abbrev c56_8 : AC := .reg [⟨(some 10), .mv (.k (.I 0)), none⟩] false
abbrev c56_9 : AC := .reg [⟨(some 11), .mv (.k (.I 0)), none⟩] false
abbrev c56_10 : AC := .reg [⟨(some 22), .mv (.t 11), none⟩,
  ⟨(some 23), .mv (.t 8), none⟩,
  ⟨(some 24), .len (.t 23), none⟩,
  ⟨(some 25), .bin .lss (.t 22) (.t 24), none⟩] false
abbrev c56_11 : AC := .cond (.t 25) .skip (.exit 0)
abbrev c56_12 : AC := .seq c56_10 c56_11
abbrev c56_13 : AC := .reg [⟨(some 28), .mv (.t 10), none⟩,
  ⟨(some 29), .mv (.t 8), none⟩,
  ⟨(some 30), .mv (.t 11), none⟩,
  ⟨(some 31), .iad 1 (.t 29) (.t 30), none⟩,
  ⟨(some 32), .ld none (.t 31), none⟩,
  ⟨(some 33), .bin .sub (.t 32) (.k (.I 1)), none⟩,
  ⟨(some 34), .minmax true (.t 33) (.k (.I 0)), none⟩,
  ⟨(some 35), .bin .add (.t 28) (.t 34), none⟩,
  ⟨(some 10), .mv (.t 35), none⟩] false
abbrev c56_14 : AC := .block 1 c56_13
abbrev c56_15 : AC := .reg [⟨(some 26), .mv (.t 11), none⟩,
  ⟨(some 27), .bin .add (.t 26) (.k (.I 1)), none⟩,
  ⟨(some 11), .mv (.t 27), none⟩] false
abbrev c56_16 : AC := .seq c56_14 c56_15
abbrev c56_17 : AC := .seq c56_12 c56_16
abbrev c56_18 : AC := .loop c56_17
abbrev c56_19 : AC := .block 0 c56_18
abbrev c56_20 : AC := .seq c56_9 c56_19
abbrev c56_21 : AC := .reg [⟨(some 36), .mv (.t 10), none⟩,
  ⟨(some 6), .mv (.t 36), none⟩,
  ⟨(some 7), .mv (.k (.I 0)), none⟩] false
abbrev c56_22 : AC := .seq c56_21 .ret
abbrev c56_23 : AC := .seq c56_20 c56_22
abbrev c56_24 : AC := .seq c56_8 c56_23
abbrev c56_25 : AC := .seq c56_7 c56_24
abbrev c56_26 : AC := .seq c56_2 c56_25
abbrev c56_27 : AC := .seq c56_1 c56_26
abbrev c56 : AC := c56_27
theorem code56 : fnCode Try.prog 56 = some (c56, [6, 7], 37) := by kernel_rfl
/- coinage/coinageref27.Is -/
abbrev c54_1 : AC := .reg [⟨(some 6), .mv (.k (.B false)), none⟩] false
abbrev c54_2 : AC := .reg [⟨(some 10), .mv (.t 0), none⟩,
  ⟨(some 11), .mv (.t 1), none⟩,
  ⟨(some 12), .mv (.t 2), none⟩,
  ⟨(some 13), .call 56 [(.t 10), (.t 11), (.t 12)], none⟩,
  ⟨(some 9), .mv (.t 13), none⟩,
  ⟨(some 14), .ext (.t 9) 0, none⟩,
  ⟨(some 15), .ext (.t 9) 1, none⟩,
  ⟨(some 7), .mv (.t 14), none⟩,
  ⟨(some 8), .mv (.t 15), none⟩] false
abbrev c54_3 : AC := .reg [⟨(some 16), .mv (.t 8), none⟩,
  ⟨(some 17), .bin .eql (.t 16) (.k (.I 0)), none⟩,
  ⟨(some 18), .mv (.t 17), none⟩,
  ⟨(some 19), .mv (.t 7), (some (18, true))⟩,
  ⟨(some 20), .bin .eql (.t 19) (.k (.I 0)), (some (18, true))⟩,
  ⟨(some 21), .pick (.t 18) (.t 20) (.k (.B false)), none⟩,
  ⟨(some 6), .mv (.t 21), none⟩] false
abbrev c54_4 : AC := .seq c54_3 .ret
abbrev c54_5 : AC := .seq c54_2 c54_4
abbrev c54_6 : AC := .seq c54_1 c54_5
abbrev c54 : AC := c54_6
theorem code54 : fnCode Try.prog 54 = some (c54, [6], 22) := by kernel_rfl
/- coinage/coinagebase.Has -/
abbrev c46_1 : AC := .reg [⟨(some 4), .mv (.k (.B false)), none⟩] false
abbrev c46_2 : AC := .reg [⟨(some 5), .mv (.k (.I 0)), none⟩] false
abbrev c46_3 : AC := .reg [⟨(some 6), .mv (.t 5), none⟩,
  ⟨(some 7), .mv (.t 0), none⟩,
  ⟨(some 8), .len (.t 7), none⟩,
  ⟨(some 9), .bin .lss (.t 6) (.t 8), none⟩] false
abbrev c46_4 : AC := .cond (.t 9) .skip (.exit 0)
abbrev c46_5 : AC := .seq c46_3 c46_4
abbrev c46_6 : AC := .reg [⟨(some 12), .mv (.t 0), none⟩,
  ⟨(some 13), .mv (.t 5), none⟩,
  ⟨(some 14), .iad 1 (.t 12) (.t 13), none⟩,
  ⟨(some 15), .ld none (.t 14), none⟩,
  ⟨(some 16), .mv (.t 1), none⟩,
  ⟨(some 17), .bin .eql (.t 15) (.t 16), none⟩] false
abbrev c46_7 : AC := .reg [⟨(some 4), .mv (.k (.B true)), none⟩] false
abbrev c46_8 : AC := .seq c46_7 .ret
abbrev c46_9 : AC := .cond (.t 17) c46_8 .skip
abbrev c46_10 : AC := .seq c46_6 c46_9
abbrev c46_11 : AC := .block 1 c46_10
abbrev c46_12 : AC := .reg [⟨(some 10), .mv (.t 5), none⟩,
  ⟨(some 11), .bin .add (.t 10) (.k (.I 1)), none⟩,
  ⟨(some 5), .mv (.t 11), none⟩] false
abbrev c46_13 : AC := .seq c46_11 c46_12
abbrev c46_14 : AC := .seq c46_5 c46_13
abbrev c46_15 : AC := .loop c46_14
abbrev c46_16 : AC := .block 0 c46_15
abbrev c46_17 : AC := .seq c46_2 c46_16
abbrev c46_18 : AC := .reg [⟨(some 4), .mv (.k (.B false)), none⟩] false
abbrev c46_19 : AC := .seq c46_18 .ret
abbrev c46_20 : AC := .seq c46_17 c46_19
abbrev c46_21 : AC := .seq c46_1 c46_20
abbrev c46 : AC := c46_21
theorem code46 : fnCode Try.prog 46 = some (c46, [4], 18) := by kernel_rfl
/- coinage/coinagebase.Table -/
abbrev c37_1 : AC := .reg [⟨(some 4), .mv (.k (.B false)), none⟩] false
abbrev c37_2 : AC := .reg [⟨(some 6), .mv (.t 0), none⟩,
  ⟨(some 7), .bin .lss (.t 6) (.k (.I 0)), none⟩,
  ⟨(some 8), .mv (.t 7), none⟩,
  ⟨(some 9), .mv (.t 0), (some (8, false))⟩,
  ⟨(some 10), .bin .gtr (.t 9) (.k (.I 7)), (some (8, false))⟩,
  ⟨(some 11), .pick (.t 8) (.k (.B true)) (.t 10), none⟩,
  ⟨(some 12), .mv (.t 11), none⟩,
  ⟨(some 13), .mv (.t 1), (some (12, false))⟩,
  ⟨(some 14), .len (.t 13), (some (12, false))⟩,
  ⟨(some 15), .bin .gtr (.t 14) (.k (.I 16)), (some (12, false))⟩,
  ⟨(some 16), .pick (.t 12) (.k (.B true)) (.t 15), none⟩] false
abbrev c37_3 : AC := .reg [⟨(some 4), .mv (.k (.B false)), none⟩] false
abbrev c37_4 : AC := .seq c37_3 .ret
abbrev c37_5 : AC := .cond (.t 16) c37_4 .skip
abbrev c37_6 : AC := .seq c37_2 c37_5
abbrev c37_7 : AC := .reg [⟨(some 5), .mv (.k (.I 0)), none⟩] false
abbrev c37_8 : AC := .reg [⟨(some 17), .mv (.t 5), none⟩,
  ⟨(some 18), .mv (.t 1), none⟩,
  ⟨(some 19), .len (.t 18), none⟩,
  ⟨(some 20), .bin .lss (.t 17) (.t 19), none⟩] false
abbrev c37_9 : AC := .cond (.t 20) .skip (.exit 0)
abbrev c37_10 : AC := .seq c37_8 c37_9
abbrev c37_11 : AC := .reg [⟨(some 23), .mv (.t 1), none⟩,
  ⟨(some 24), .mv (.t 5), none⟩,
  ⟨(some 25), .iad 1 (.t 23) (.t 24), none⟩,
  ⟨(some 26), .ld none (.t 25), none⟩,
  ⟨(some 27), .mv (.t 0), none⟩,
  ⟨(some 28), .bin .sub (.t 27) (.k (.I 1)), none⟩,
  ⟨(some 29), .call 45 [(.t 26), (.k (.I 0)), (.t 28)], none⟩,
  ⟨(some 30), .not (.t 29), none⟩] false
abbrev c37_12 : AC := .reg [⟨(some 4), .mv (.k (.B false)), none⟩] false
abbrev c37_13 : AC := .seq c37_12 .ret
abbrev c37_14 : AC := .cond (.t 30) c37_13 .skip
abbrev c37_15 : AC := .seq c37_11 c37_14
abbrev c37_16 : AC := .block 1 c37_15
abbrev c37_17 : AC := .reg [⟨(some 21), .mv (.t 5), none⟩,
  ⟨(some 22), .bin .add (.t 21) (.k (.I 1)), none⟩,
  ⟨(some 5), .mv (.t 22), none⟩] false
abbrev c37_18 : AC := .seq c37_16 c37_17
abbrev c37_19 : AC := .seq c37_10 c37_18
abbrev c37_20 : AC := .loop c37_19
abbrev c37_21 : AC := .block 0 c37_20
abbrev c37_22 : AC := .seq c37_7 c37_21
abbrev c37_23 : AC := .reg [⟨(some 4), .mv (.k (.B true)), none⟩] false
abbrev c37_24 : AC := .seq c37_23 .ret
abbrev c37_25 : AC := .seq c37_22 c37_24
abbrev c37_26 : AC := .seq c37_6 c37_25
abbrev c37_27 : AC := .seq c37_1 c37_26
abbrev c37 : AC := c37_27
theorem code37 : fnCode Try.prog 37 = some (c37, [4], 31) := by kernel_rfl
/- coinage/coinagebase.Ascending -/
abbrev c45_1 : AC := .reg [⟨(some 6), .mv (.k (.B false)), none⟩] false
abbrev c45_2 : AC := .reg [⟨(some 7), .mv (.k (.I 0)), none⟩] false
abbrev c45_3 : AC := .reg [⟨(some 8), .mv (.t 7), none⟩,
  ⟨(some 9), .mv (.t 0), none⟩,
  ⟨(some 10), .len (.t 9), none⟩,
  ⟨(some 11), .bin .lss (.t 8) (.t 10), none⟩] false
abbrev c45_4 : AC := .cond (.t 11) .skip (.exit 0)
abbrev c45_5 : AC := .seq c45_3 c45_4
abbrev c45_6 : AC := .regD [(⟨(some 14), .mv (.t 0), none⟩, [0]),
  (⟨(some 15), .mv (.t 7), none⟩, [7]),
  (⟨(some 16), .iad 1 (.t 14) (.t 15), none⟩, [14, 15]),
  (⟨(some 17), .ld none (.t 16), none⟩, [16]),
  (⟨(some 18), .mv (.t 1), none⟩, [1]),
  (⟨(some 19), .bin .lss (.t 17) (.t 18), none⟩, [17, 18]),
  (⟨(some 20), .mv (.t 19), none⟩, [19]),
  (⟨(some 21), .mv (.t 0), (some (20, false))⟩, [0, 20]),
  (⟨(some 22), .mv (.t 7), (some (20, false))⟩, [7, 20]),
  (⟨(some 23), .iad 1 (.t 21) (.t 22), (some (20, false))⟩, [21, 22, 20]),
  (⟨(some 24), .ld none (.t 23), (some (20, false))⟩, [23, 20]),
  (⟨(some 25), .mv (.t 2), (some (20, false))⟩, [2, 20]),
  (⟨(some 26), .bin .gtr (.t 24) (.t 25), (some (20, false))⟩, [24, 25, 20]),
  (⟨(some 27), .pick (.t 20) (.k (.B true)) (.t 26), none⟩, [20, 26]),
  (⟨(some 28), .mv (.t 27), none⟩, [27]),
  (⟨(some 29), .mv (.t 7), (some (28, false))⟩, [7, 28]),
  (⟨(some 30), .bin .gtr (.t 29) (.k (.I 0)), (some (28, false))⟩, [29, 28]),
  (⟨(some 31), .mv (.t 30), (some (28, false))⟩, [30, 28]),
  (⟨(some 32), .mv (.t 0), (some (31, true))⟩, [0, 31]),
  (⟨(some 33), .mv (.t 7), (some (31, true))⟩, [7, 31]),
  (⟨(some 34), .iad 1 (.t 32) (.t 33), (some (31, true))⟩, [32, 33, 31]),
  (⟨(some 35), .ld none (.t 34), (some (31, true))⟩, [34, 31]),
  (⟨(some 36), .mv (.t 0), (some (31, true))⟩, [0, 31]),
  (⟨(some 37), .mv (.t 7), (some (31, true))⟩, [7, 31]),
  (⟨(some 38), .bin .sub (.t 37) (.k (.I 1)), (some (31, true))⟩, [37, 31]),
  (⟨(some 39), .iad 1 (.t 36) (.t 38), (some (31, true))⟩, [36, 38, 31]),
  (⟨(some 40), .ld none (.t 39), (some (31, true))⟩, [39, 31]),
  (⟨(some 41), .bin .leq (.t 35) (.t 40), (some (31, true))⟩, [35, 40, 31]),
  (⟨(some 42), .pick (.t 31) (.t 41) (.k (.B false)), (some (28, false))⟩, [31, 41, 28]),
  (⟨(some 43), .pick (.t 28) (.k (.B true)) (.t 42), none⟩, [28, 42])]
abbrev c45_7 : AC := .reg [⟨(some 6), .mv (.k (.B false)), none⟩] false
abbrev c45_8 : AC := .seq c45_7 .ret
abbrev c45_9 : AC := .cond (.t 43) c45_8 .skip
abbrev c45_10 : AC := .seq c45_6 c45_9
abbrev c45_11 : AC := .block 1 c45_10
abbrev c45_12 : AC := .reg [⟨(some 12), .mv (.t 7), none⟩,
  ⟨(some 13), .bin .add (.t 12) (.k (.I 1)), none⟩,
  ⟨(some 7), .mv (.t 13), none⟩] false
abbrev c45_13 : AC := .seq c45_11 c45_12
abbrev c45_14 : AC := .seq c45_5 c45_13
abbrev c45_15 : AC := .loop c45_14
abbrev c45_16 : AC := .block 0 c45_15
abbrev c45_17 : AC := .seq c45_2 c45_16
abbrev c45_18 : AC := .reg [⟨(some 6), .mv (.k (.B true)), none⟩] false
abbrev c45_19 : AC := .seq c45_18 .ret
abbrev c45_20 : AC := .seq c45_17 c45_19
abbrev c45_21 : AC := .seq c45_1 c45_20
abbrev c45 : AC := c45_21
theorem code45 : fnCode Try.prog 45 = some (c45, [6], 44) := by kernel_rfl
/- coinage/coinagelaw29.five -/
abbrev c29_1 : AC := .reg [⟨(some 0), .mv (.k (.c .nil)), none⟩] false
abbrev c29_2 : AC := .reg [⟨(some 1), .bslice 3 1 [(.k (.I 0)), (.k (.I 1))], none⟩,
  ⟨(some 2), .bslice 3 1 [(.k (.I 1)), (.k (.I 2))], none⟩,
  ⟨(some 3), .bslice 3 1 [(.k (.I 0)), (.k (.I 1)), (.k (.I 2))], none⟩,
  ⟨(some 4), .bslice 3 1 [(.k (.I 0)), (.k (.I 2))], none⟩,
  ⟨(some 5), .bslice 3 1 [(.k (.I 2)), (.k (.I 3))], none⟩,
  ⟨(some 6), .bslice 23 1 [(.t 1), (.t 2), (.t 3), (.t 4), (.t 5)], none⟩,
  ⟨(some 0), .mv (.t 6), none⟩] false
abbrev c29_3 : AC := .seq c29_2 .ret
abbrev c29_4 : AC := .seq c29_1 c29_3
abbrev c29 : AC := c29_4
theorem code29 : fnCode Try.prog 29 = some (c29, [0], 7) := by kernel_rfl
/- coinage/obstruction.ascending -/
abbrev c30_1 : AC := .reg [⟨(some 4), .mv (.k (.B false)), none⟩] false
abbrev c30_2 : AC := .reg [⟨(some 7), .mv (.t 0), none⟩,
  ⟨(some 8), .len (.t 7), none⟩,
  ⟨(some 9), .mv (.k (.I 0)), none⟩] false
abbrev c30_3 : AC := .reg [⟨(some 10), .bin .lss (.t 9) (.t 8), none⟩] false
abbrev c30_4 : AC := .cond (.t 10) .skip (.exit 0)
abbrev c30_5 : AC := .reg [⟨(some 11), .mv (.t 9), none⟩,
  ⟨(some 12), .iad 1 (.t 7) (.t 9), none⟩,
  ⟨(some 13), .ld none (.t 12), none⟩,
  ⟨(some 5), .mv (.t 11), none⟩,
  ⟨(some 6), .mv (.t 13), none⟩] false
abbrev c30_6 : AC := .reg [⟨(some 14), .mv (.t 6), none⟩,
  ⟨(some 15), .bin .lss (.t 14) (.k (.I 0)), none⟩,
  ⟨(some 16), .mv (.t 15), none⟩,
  ⟨(some 17), .mv (.t 6), (some (16, false))⟩,
  ⟨(some 18), .mv (.t 1), (some (16, false))⟩,
  ⟨(some 19), .bin .geq (.t 17) (.t 18), (some (16, false))⟩,
  ⟨(some 20), .pick (.t 16) (.k (.B true)) (.t 19), none⟩,
  ⟨(some 21), .mv (.t 20), none⟩,
  ⟨(some 22), .mv (.t 5), (some (21, false))⟩,
  ⟨(some 23), .bin .gtr (.t 22) (.k (.I 0)), (some (21, false))⟩,
  ⟨(some 24), .mv (.t 23), (some (21, false))⟩,
  ⟨(some 25), .mv (.t 6), (some (24, true))⟩,
  ⟨(some 26), .mv (.t 0), (some (24, true))⟩,
  ⟨(some 27), .mv (.t 5), (some (24, true))⟩,
  ⟨(some 28), .bin .sub (.t 27) (.k (.I 1)), (some (24, true))⟩,
  ⟨(some 29), .iad 1 (.t 26) (.t 28), (some (24, true))⟩,
  ⟨(some 30), .ld none (.t 29), (some (24, true))⟩,
  ⟨(some 31), .bin .leq (.t 25) (.t 30), (some (24, true))⟩,
  ⟨(some 32), .pick (.t 24) (.t 31) (.k (.B false)), (some (21, false))⟩,
  ⟨(some 33), .pick (.t 21) (.k (.B true)) (.t 32), none⟩] false
abbrev c30_7 : AC := .reg [⟨(some 4), .mv (.k (.B false)), none⟩] false
abbrev c30_8 : AC := .seq c30_7 .ret
abbrev c30_9 : AC := .cond (.t 33) c30_8 .skip
abbrev c30_10 : AC := .seq c30_6 c30_9
abbrev c30_11 : AC := .seq c30_5 c30_10
abbrev c30_12 : AC := .block 1 c30_11
abbrev c30_13 : AC := .reg [⟨(some 34), .bin .add (.t 9) (.k (.I 1)), none⟩,
  ⟨(some 9), .mv (.t 34), none⟩] false
abbrev c30_14 : AC := .seq c30_12 c30_13
abbrev c30_15 : AC := .seq c30_4 c30_14
abbrev c30_16 : AC := .seq c30_3 c30_15
abbrev c30_17 : AC := .loop c30_16
abbrev c30_18 : AC := .block 0 c30_17
abbrev c30_19 : AC := .seq c30_2 c30_18
abbrev c30_20 : AC := .reg [⟨(some 4), .mv (.k (.B true)), none⟩] false
abbrev c30_21 : AC := .seq c30_20 .ret
abbrev c30_22 : AC := .seq c30_19 c30_21
abbrev c30_23 : AC := .seq c30_1 c30_22
abbrev c30 : AC := c30_23
theorem code30 : fnCode Try.prog 30 = some (c30, [4], 35) := by kernel_rfl
/- slices.Index[[]int,int] -/
abbrev c31_1 : AC := .reg [⟨(some 4), .mv (.k (.I 0)), none⟩] false
abbrev c31_2 : AC := .reg [⟨(some 6), .mv (.t 0), none⟩,
  ⟨(some 7), .len (.t 6), none⟩,
  ⟨(some 8), .mv (.k (.I 0)), none⟩] false
abbrev c31_3 : AC := .reg [⟨(some 9), .bin .lss (.t 8) (.t 7), none⟩] false
abbrev c31_4 : AC := .cond (.t 9) .skip (.exit 0)
abbrev c31_5 : AC := .reg [⟨(some 10), .mv (.t 8), none⟩,
  ⟨(some 5), .mv (.t 10), none⟩] false
abbrev c31_6 : AC := .reg [⟨(some 11), .mv (.t 1), none⟩,
  ⟨(some 12), .mv (.t 0), none⟩,
  ⟨(some 13), .mv (.t 5), none⟩,
  ⟨(some 14), .iad 1 (.t 12) (.t 13), none⟩,
  ⟨(some 15), .ld none (.t 14), none⟩,
  ⟨(some 16), .bin .eql (.t 11) (.t 15), none⟩] false
abbrev c31_7 : AC := .reg [⟨(some 17), .mv (.t 5), none⟩,
  ⟨(some 4), .mv (.t 17), none⟩] false
abbrev c31_8 : AC := .seq c31_7 .ret
abbrev c31_9 : AC := .cond (.t 16) c31_8 .skip
abbrev c31_10 : AC := .seq c31_6 c31_9
abbrev c31_11 : AC := .seq c31_5 c31_10
abbrev c31_12 : AC := .block 1 c31_11
abbrev c31_13 : AC := .reg [⟨(some 18), .bin .add (.t 8) (.k (.I 1)), none⟩,
  ⟨(some 8), .mv (.t 18), none⟩] false
abbrev c31_14 : AC := .seq c31_12 c31_13
abbrev c31_15 : AC := .seq c31_4 c31_14
abbrev c31_16 : AC := .seq c31_3 c31_15
abbrev c31_17 : AC := .loop c31_16
abbrev c31_18 : AC := .block 0 c31_17
abbrev c31_19 : AC := .seq c31_2 c31_18
abbrev c31_20 : AC := .reg [⟨(some 4), .mv (.k (.I (-1))), none⟩] false
abbrev c31_21 : AC := .seq c31_20 .ret
abbrev c31_22 : AC := .seq c31_19 c31_21
abbrev c31_23 : AC := .seq c31_1 c31_22
abbrev c31 : AC := c31_23
theorem code31 : fnCode Try.prog 31 = some (c31, [4], 19) := by kernel_rfl
/- coinage/coinageref29.part -/
abbrev c32_1 : AC := .reg [⟨(some 8), .mv (.k (.B false)), none⟩] false
abbrev c32_2 : AC := .reg [⟨(some 9), .mv (.t 2), none⟩,
  ⟨(some 10), .mv (.t 1), none⟩,
  ⟨(some 11), .len (.t 10), none⟩,
  ⟨(some 12), .bin .sub (.t 11) (.k (.I 1)), none⟩,
  ⟨(some 13), .call 45 [(.t 9), (.k (.I 0)), (.t 12)], none⟩,
  ⟨(some 14), .mv (.t 13), none⟩,
  ⟨(some 15), .mv (.t 3), (some (14, true))⟩,
  ⟨(some 16), .mv (.t 0), (some (14, true))⟩,
  ⟨(some 17), .bin .sub (.t 16) (.k (.I 1)), (some (14, true))⟩,
  ⟨(some 18), .call 45 [(.t 15), (.k (.I 0)), (.t 17)], (some (14, true))⟩,
  ⟨(some 19), .pick (.t 14) (.t 18) (.k (.B false)), none⟩,
  ⟨(some 8), .mv (.t 19), none⟩] false
abbrev c32_3 : AC := .seq c32_2 .ret
abbrev c32_4 : AC := .seq c32_1 c32_3
abbrev c32 : AC := c32_4
theorem code32 : fnCode Try.prog 32 = some (c32, [8], 20) := by kernel_rfl
/- coinage/coinageref29.cut -/
abbrev c33_1 : AC := .reg [⟨(some 6), .mv (.k (.c .nil)), none⟩] false
abbrev c33_2 : AC := .reg [⟨(some 7), .mv (.k (.c .nil)), none⟩] false
abbrev c33_3 : AC := .reg [⟨(some 8), .mv (.k (.I 0)), none⟩] false
abbrev c33_4 : AC := .reg [⟨(some 11), .mv (.t 8), none⟩,
  ⟨(some 12), .mv (.t 1), none⟩,
  ⟨(some 13), .len (.t 12), none⟩,
  ⟨(some 14), .bin .lss (.t 11) (.t 13), none⟩] false
abbrev c33_5 : AC := .cond (.t 14) .skip (.exit 0)
abbrev c33_6 : AC := .seq c33_4 c33_5
abbrev c33_7 : AC := .reg [⟨(some 17), .bslice 3 1 [], none⟩,
  ⟨(some 9), .mv (.t 17), none⟩] false
abbrev c33_8 : AC := .reg [⟨(some 10), .mv (.k (.I 0)), none⟩] false
abbrev c33_9 : AC := .reg [⟨(some 18), .mv (.t 10), none⟩,
  ⟨(some 19), .mv (.t 2), none⟩,
  ⟨(some 20), .len (.t 19), none⟩,
  ⟨(some 21), .bin .lss (.t 18) (.t 20), none⟩] false
abbrev c33_10 : AC := .cond (.t 21) .skip (.exit 2)
abbrev c33_11 : AC := .seq c33_9 c33_10
abbrev c33_12 : AC := .regD [(⟨(some 24), .mv (.t 0), none⟩, [0]),
  (⟨(some 25), .mv (.t 1), none⟩, [1]),
  (⟨(some 26), .mv (.t 8), none⟩, [8]),
  (⟨(some 27), .iad 1 (.t 25) (.t 26), none⟩, [25, 26]),
  (⟨(some 28), .ld none (.t 27), none⟩, [27]),
  (⟨(some 29), .iad 1 (.t 24) (.t 28), none⟩, [24, 28]),
  (⟨(some 30), .ld none (.t 29), none⟩, [29]),
  (⟨(some 31), .mv (.t 2), none⟩, [2]),
  (⟨(some 32), .mv (.t 10), none⟩, [10]),
  (⟨(some 33), .iad 1 (.t 31) (.t 32), none⟩, [31, 32]),
  (⟨(some 34), .ld none (.t 33), none⟩, [33]),
  (⟨(some 35), .call 46 [(.t 30), (.t 34)], none⟩, [30, 34])]
abbrev c33_13 : AC := .reg [⟨(some 36), .mv (.t 9), none⟩,
  ⟨(some 37), .mv (.t 10), none⟩,
  ⟨(some 38), .bslice 3 1 [(.t 37)], none⟩,
  ⟨(some 39), .app 3 1 8 (.t 36) (.t 38), none⟩,
  ⟨(some 9), .mv (.t 39), none⟩] false
abbrev c33_14 : AC := .cond (.t 35) c33_13 .skip
abbrev c33_15 : AC := .seq c33_12 c33_14
abbrev c33_16 : AC := .block 3 c33_15
abbrev c33_17 : AC := .reg [⟨(some 22), .mv (.t 10), none⟩,
  ⟨(some 23), .bin .add (.t 22) (.k (.I 1)), none⟩,
  ⟨(some 10), .mv (.t 23), none⟩] false
abbrev c33_18 : AC := .seq c33_16 c33_17
abbrev c33_19 : AC := .seq c33_11 c33_18
abbrev c33_20 : AC := .loop c33_19
abbrev c33_21 : AC := .block 2 c33_20
abbrev c33_22 : AC := .seq c33_8 c33_21
abbrev c33_23 : AC := .reg [⟨(some 40), .mv (.t 7), none⟩,
  ⟨(some 41), .mv (.t 9), none⟩,
  ⟨(some 42), .bslice 23 1 [(.t 41)], none⟩,
  ⟨(some 43), .app 23 1 24 (.t 40) (.t 42), none⟩,
  ⟨(some 7), .mv (.t 43), none⟩] false
abbrev c33_24 : AC := .seq c33_22 c33_23
abbrev c33_25 : AC := .seq c33_7 c33_24
abbrev c33_26 : AC := .block 1 c33_25
abbrev c33_27 : AC := .reg [⟨(some 15), .mv (.t 8), none⟩,
  ⟨(some 16), .bin .add (.t 15) (.k (.I 1)), none⟩,
  ⟨(some 8), .mv (.t 16), none⟩] false
abbrev c33_28 : AC := .seq c33_26 c33_27
abbrev c33_29 : AC := .seq c33_6 c33_28
abbrev c33_30 : AC := .loop c33_29
abbrev c33_31 : AC := .block 0 c33_30
abbrev c33_32 : AC := .seq c33_3 c33_31
abbrev c33_33 : AC := .reg [⟨(some 44), .mv (.t 7), none⟩,
  ⟨(some 6), .mv (.t 44), none⟩] false
abbrev c33_34 : AC := .seq c33_33 .ret
abbrev c33_35 : AC := .seq c33_32 c33_34
abbrev c33_36 : AC := .seq c33_2 c33_35
abbrev c33_37 : AC := .seq c33_1 c33_36
abbrev c33 : AC := c33_37
theorem code33 : fnCode Try.prog 33 = some (c33, [6], 45) := by kernel_rfl
/- coinage/obstruction.without -/
abbrev c35_1 : AC := .reg [⟨(some 4), .mv (.k (.c .nil)), none⟩] false
abbrev c35_2 : AC := .reg [⟨(some 5), .mv (.t 0), none⟩,
  ⟨(some 6), .call 49 [(.t 5)], none⟩,
  ⟨(some 7), .mv (.t 1), none⟩,
  ⟨(some 8), .mv (.t 1), none⟩,
  ⟨(some 9), .bin .add (.t 8) (.k (.I 1)), none⟩,
  ⟨(some 10), .call 48 [(.t 6), (.t 7), (.t 9)], none⟩,
  ⟨(some 4), .mv (.t 10), none⟩] false
abbrev c35_3 : AC := .seq c35_2 .ret
abbrev c35_4 : AC := .seq c35_1 c35_3
abbrev c35 : AC := c35_4
theorem code35 : fnCode Try.prog 35 = some (c35, [4], 11) := by kernel_rfl
/- coinage/coinageref29.without -/
abbrev c36_1 : AC := .reg [⟨(some 4), .mv (.k (.c .nil)), none⟩] false
abbrev c36_2 : AC := .regX (.first ⟨(some 6), .mv (.t 0), none⟩
  (.first ⟨(some 7), .mv (.t 1), none⟩
  (.first ⟨(some 8), .slc 1 (.t 6) none (some (.t 7)), none⟩
  (.first ⟨(some 10), .mv (.t 0), none⟩
  (.first ⟨(some 11), .mv (.t 1), none⟩
  (.first ⟨(some 12), .bin .add (.t 11) (.k (.I 1)), none⟩
  (.first ⟨(some 13), .slc 1 (.t 10) (some (.t 12)) none, none⟩
  (.fork ⟨(some 5), .bslice 3 1 [], none⟩
  (.fork ⟨(some 9), .app 3 1 8 (.t 5) (.t 8), none⟩
  (.fork ⟨(some 14), .app 3 1 8 (.t 9) (.t 13), none⟩
  (.first ⟨(some 4), .mv (.t 14), none⟩
  .done)
  .nope)
  .nope)
  .nope))))))))
abbrev c36_3 : AC := .seq c36_2 .ret
abbrev c36_4 : AC := .seq c36_1 c36_3
abbrev c36 : AC := c36_4
theorem code36 : fnCode Try.prog 36 = some (c36, [4], 15) := by kernel_rfl
/- coinage/obstruction.upTo -/
abbrev c39_1 : AC := .reg [⟨(some 2), .mv (.k (.c .nil)), none⟩] false
abbrev c39_2 : AC := .reg [⟨(some 3), .mv (.k (.c .nil)), none⟩] false
abbrev c39_3 : AC := .reg [⟨(some 5), .mv (.t 0), none⟩,
  ⟨(some 6), .mv (.k (.I 0)), none⟩] false
abbrev c39_4 : AC := .reg [⟨(some 7), .bin .lss (.t 6) (.t 5), none⟩] false
abbrev c39_5 : AC := .cond (.t 7) .skip (.exit 0)
abbrev c39_6 : AC := .reg [⟨(some 8), .mv (.t 6), none⟩,
  ⟨(some 4), .mv (.t 8), none⟩] false
abbrev c39_7 : AC := .reg [⟨(some 9), .mv (.t 3), none⟩,
  ⟨(some 10), .mv (.t 4), none⟩,
  ⟨(some 11), .bslice 3 1 [(.t 10)], none⟩,
  ⟨(some 12), .app 3 1 8 (.t 9) (.t 11), none⟩,
  ⟨(some 3), .mv (.t 12), none⟩] false
abbrev c39_8 : AC := .seq c39_6 c39_7
abbrev c39_9 : AC := .block 1 c39_8
abbrev c39_10 : AC := .reg [⟨(some 13), .bin .add (.t 6) (.k (.I 1)), none⟩,
  ⟨(some 6), .mv (.t 13), none⟩] false
abbrev c39_11 : AC := .seq c39_9 c39_10
abbrev c39_12 : AC := .seq c39_5 c39_11
abbrev c39_13 : AC := .seq c39_4 c39_12
abbrev c39_14 : AC := .loop c39_13
abbrev c39_15 : AC := .block 0 c39_14
abbrev c39_16 : AC := .seq c39_3 c39_15
abbrev c39_17 : AC := .reg [⟨(some 14), .mv (.t 3), none⟩,
  ⟨(some 2), .mv (.t 14), none⟩] false
abbrev c39_18 : AC := .seq c39_17 .ret
abbrev c39_19 : AC := .seq c39_16 c39_18
abbrev c39_20 : AC := .seq c39_2 c39_19
abbrev c39_21 : AC := .seq c39_1 c39_20
abbrev c39 : AC := c39_21
theorem code39 : fnCode Try.prog 39 = some (c39, [2], 15) := by kernel_rfl
/- slices.ContainsFunc[[]int,int] -/
abbrev c40_1 : AC := .reg [⟨(some 4), .mv (.k (.B false)), none⟩] false
abbrev c40_2 : AC := .reg [⟨(some 5), .mv (.t 0), none⟩,
  ⟨(some 6), .mv (.t 1), none⟩,
  ⟨(some 7), .call 52 [(.t 5), (.t 6)], none⟩,
  ⟨(some 8), .bin .geq (.t 7) (.k (.I 0)), none⟩,
  ⟨(some 4), .mv (.t 8), none⟩] false
abbrev c40_3 : AC := .seq c40_2 .ret
abbrev c40_4 : AC := .seq c40_1 c40_3
abbrev c40 : AC := c40_4
theorem code40 : fnCode Try.prog 40 = some (c40, [4], 9) := by kernel_rfl
/- coinage/obstruction.Kind$1 -/
abbrev c41_1 : AC := .reg [⟨(some 2), .mv (.k (.B false)), none⟩] false
abbrev c41_2 : AC := .reg [⟨(some 3), .mv (.t 0), none⟩,
  ⟨(some 4), .bin .neq (.t 3) (.k (.I 2)), none⟩,
  ⟨(some 2), .mv (.t 4), none⟩] false
abbrev c41_3 : AC := .seq c41_2 .ret
abbrev c41_4 : AC := .seq c41_1 c41_3
abbrev c41 : AC := c41_4
theorem code41 : fnCode Try.prog 41 = some (c41, [2], 5) := by kernel_rfl
/- coinage/obstruction.choose -/
abbrev c42_1 : AC := .reg [⟨(some 8), .mv (.k (.c .nil)), none⟩,
  ⟨(some 9), .mv (.k (.B false)), none⟩] false
abbrev c42_2 : AC := .reg [⟨(some 14), .mv (.t 2), none⟩,
  ⟨(some 15), .len (.t 14), none⟩,
  ⟨(some 16), .mv (.t 3), none⟩,
  ⟨(some 17), .bin .eql (.t 15) (.t 16), none⟩] false
abbrev c42_3 : AC := .reg [⟨(some 18), .mv (.t 2), none⟩,
  ⟨(some 19), .mv (.t 0), none⟩,
  ⟨(some 20), .mv (.t 1), none⟩,
  ⟨(some 21), .mv (.t 2), none⟩,
  ⟨(some 22), .mv (.t 0), none⟩,
  ⟨(some 23), .call 39 [(.t 22)], none⟩,
  ⟨(some 24), .call 14 [(.t 19), (.t 20), (.t 21), (.t 23)], none⟩,
  ⟨(some 8), .mv (.t 18), none⟩,
  ⟨(some 9), .mv (.t 24), none⟩] false
abbrev c42_4 : AC := .seq c42_3 .ret
abbrev c42_5 : AC := .cond (.t 17) c42_4 .skip
abbrev c42_6 : AC := .seq c42_2 c42_5
abbrev c42_7 : AC := .reg [⟨(some 10), .mv (.k (.I 0)), none⟩] false
abbrev c42_8 : AC := .reg [⟨(some 25), .mv (.t 2), none⟩,
  ⟨(some 26), .len (.t 25), none⟩,
  ⟨(some 27), .bin .gtr (.t 26) (.k (.I 0)), none⟩] false
abbrev c42_9 : AC := .reg [⟨(some 28), .mv (.t 2), none⟩,
  ⟨(some 29), .mv (.t 2), none⟩,
  ⟨(some 30), .len (.t 29), none⟩,
  ⟨(some 31), .bin .sub (.t 30) (.k (.I 1)), none⟩,
  ⟨(some 32), .iad 1 (.t 28) (.t 31), none⟩,
  ⟨(some 33), .ld none (.t 32), none⟩,
  ⟨(some 34), .bin .add (.t 33) (.k (.I 1)), none⟩,
  ⟨(some 10), .mv (.t 34), none⟩] false
abbrev c42_10 : AC := .cond (.t 27) c42_9 .skip
abbrev c42_11 : AC := .seq c42_8 c42_10
abbrev c42_12 : AC := .reg [⟨(some 35), .mv (.t 10), none⟩,
  ⟨(some 11), .mv (.t 35), none⟩] false
abbrev c42_13 : AC := .reg [⟨(some 36), .mv (.t 11), none⟩,
  ⟨(some 37), .mv (.t 1), none⟩,
  ⟨(some 38), .len (.t 37), none⟩,
  ⟨(some 39), .bin .lss (.t 36) (.t 38), none⟩] false
abbrev c42_14 : AC := .cond (.t 39) .skip (.exit 0)
abbrev c42_15 : AC := .seq c42_13 c42_14
abbrev c42_16 : AC := .reg [⟨(some 43), .mv (.t 0), none⟩,
  ⟨(some 44), .mv (.t 1), none⟩,
  ⟨(some 45), .mv (.t 2), none⟩,
  ⟨(some 46), .call 49 [(.t 45)], none⟩,
  ⟨(some 47), .mv (.t 11), none⟩,
  ⟨(some 48), .bslice 3 1 [(.t 47)], none⟩,
  ⟨(some 49), .app 3 1 8 (.t 46) (.t 48), none⟩,
  ⟨(some 50), .mv (.t 3), none⟩,
  ⟨(some 51), .call 42 [(.t 43), (.t 44), (.t 49), (.t 50)], none⟩,
  ⟨(some 42), .mv (.t 51), none⟩,
  ⟨(some 52), .ext (.t 42) 0, none⟩,
  ⟨(some 53), .ext (.t 42) 1, none⟩,
  ⟨(some 12), .mv (.t 52), none⟩,
  ⟨(some 13), .mv (.t 53), none⟩] false
abbrev c42_17 : AC := .reg [⟨(some 54), .mv (.t 13), none⟩] false
abbrev c42_18 : AC := .reg [⟨(some 55), .mv (.t 12), none⟩,
  ⟨(some 8), .mv (.t 55), none⟩,
  ⟨(some 9), .mv (.k (.B true)), none⟩] false
abbrev c42_19 : AC := .seq c42_18 .ret
abbrev c42_20 : AC := .cond (.t 54) c42_19 .skip
abbrev c42_21 : AC := .seq c42_17 c42_20
abbrev c42_22 : AC := .seq c42_16 c42_21
abbrev c42_23 : AC := .block 1 c42_22
abbrev c42_24 : AC := .reg [⟨(some 40), .mv (.t 11), none⟩,
  ⟨(some 41), .bin .add (.t 40) (.k (.I 1)), none⟩,
  ⟨(some 11), .mv (.t 41), none⟩] false
abbrev c42_25 : AC := .seq c42_23 c42_24
abbrev c42_26 : AC := .seq c42_15 c42_25
abbrev c42_27 : AC := .loop c42_26
abbrev c42_28 : AC := .block 0 c42_27
abbrev c42_29 : AC := .seq c42_12 c42_28
abbrev c42_30 : AC := .reg [⟨(some 8), .mv (.k (.c .nil)), none⟩,
  ⟨(some 9), .mv (.k (.B false)), none⟩] false
abbrev c42_31 : AC := .seq c42_30 .ret
abbrev c42_32 : AC := .seq c42_29 c42_31
abbrev c42_33 : AC := .seq c42_11 c42_32
abbrev c42_34 : AC := .seq c42_7 c42_33
abbrev c42_35 : AC := .seq c42_6 c42_34
abbrev c42_36 : AC := .seq c42_1 c42_35
abbrev c42 : AC := c42_36
theorem code42 : fnCode Try.prog 42 = some (c42, [8, 9], 56) := by kernel_rfl
/- coinage/coinageref29.upto -/
abbrev c43_1 : AC := .reg [⟨(some 2), .mv (.k (.c .nil)), none⟩] false
abbrev c43_2 : AC := .reg [⟨(some 3), .mv (.k (.c .nil)), none⟩] false
abbrev c43_3 : AC := .reg [⟨(some 4), .mv (.k (.I 0)), none⟩] false
abbrev c43_4 : AC := .reg [⟨(some 5), .mv (.t 4), none⟩,
  ⟨(some 6), .mv (.t 0), none⟩,
  ⟨(some 7), .bin .lss (.t 5) (.t 6), none⟩] false
abbrev c43_5 : AC := .cond (.t 7) .skip (.exit 0)
abbrev c43_6 : AC := .seq c43_4 c43_5
abbrev c43_7 : AC := .reg [⟨(some 10), .mv (.t 3), none⟩,
  ⟨(some 11), .mv (.t 4), none⟩,
  ⟨(some 12), .bslice 3 1 [(.t 11)], none⟩,
  ⟨(some 13), .app 3 1 8 (.t 10) (.t 12), none⟩,
  ⟨(some 3), .mv (.t 13), none⟩] false
abbrev c43_8 : AC := .block 1 c43_7
abbrev c43_9 : AC := .reg [⟨(some 8), .mv (.t 4), none⟩,
  ⟨(some 9), .bin .add (.t 8) (.k (.I 1)), none⟩,
  ⟨(some 4), .mv (.t 9), none⟩] false
abbrev c43_10 : AC := .seq c43_8 c43_9
abbrev c43_11 : AC := .seq c43_6 c43_10
abbrev c43_12 : AC := .loop c43_11
abbrev c43_13 : AC := .block 0 c43_12
abbrev c43_14 : AC := .seq c43_3 c43_13
abbrev c43_15 : AC := .reg [⟨(some 14), .mv (.t 3), none⟩,
  ⟨(some 2), .mv (.t 14), none⟩] false
abbrev c43_16 : AC := .seq c43_15 .ret
abbrev c43_17 : AC := .seq c43_14 c43_16
abbrev c43_18 : AC := .seq c43_2 c43_17
abbrev c43_19 : AC := .seq c43_1 c43_18
abbrev c43 : AC := c43_19
theorem code43 : fnCode Try.prog 43 = some (c43, [2], 15) := by kernel_rfl
/- coinage/coinageref29.choose -/
abbrev c44_1 : AC := .reg [⟨(some 10), .mv (.k (.c .nil)), none⟩] false
abbrev c44_2 : AC := .reg [⟨(some 13), .mv (.t 2), none⟩,
  ⟨(some 14), .len (.t 13), none⟩,
  ⟨(some 15), .mv (.t 4), none⟩,
  ⟨(some 16), .bin .eql (.t 14) (.t 15), none⟩] false
abbrev c44_3 : AC := .reg [⟨(some 17), .mv (.t 0), none⟩,
  ⟨(some 18), .mv (.t 1), none⟩,
  ⟨(some 19), .mv (.t 2), none⟩,
  ⟨(some 20), .mv (.t 0), none⟩,
  ⟨(some 21), .call 43 [(.t 20)], none⟩,
  ⟨(some 22), .call 15 [(.t 17), (.t 18), (.t 19), (.t 21)], none⟩] false
abbrev c44_4 : AC := .reg [⟨(some 23), .mv (.t 2), none⟩,
  ⟨(some 10), .mv (.t 23), none⟩] false
abbrev c44_5 : AC := .seq c44_4 .ret
abbrev c44_6 : AC := .cond (.t 22) c44_5 .skip
abbrev c44_7 : AC := .seq c44_3 c44_6
abbrev c44_8 : AC := .reg [⟨(some 10), .mv (.k (.c .nil)), none⟩] false
abbrev c44_9 : AC := .seq c44_8 .ret
abbrev c44_10 : AC := .seq c44_7 c44_9
abbrev c44_11 : AC := .cond (.t 16) c44_10 .skip
abbrev c44_12 : AC := .seq c44_2 c44_11
abbrev c44_13 : AC := .reg [⟨(some 24), .mv (.t 3), none⟩,
  ⟨(some 11), .mv (.t 24), none⟩] false
abbrev c44_14 : AC := .reg [⟨(some 25), .mv (.t 11), none⟩,
  ⟨(some 26), .mv (.t 1), none⟩,
  ⟨(some 27), .len (.t 26), none⟩,
  ⟨(some 28), .bin .lss (.t 25) (.t 27), none⟩] false
abbrev c44_15 : AC := .cond (.t 28) .skip (.exit 0)
abbrev c44_16 : AC := .seq c44_14 c44_15
abbrev c44_17 : AC := .reg [⟨(some 31), .mv (.t 0), none⟩,
  ⟨(some 32), .mv (.t 1), none⟩,
  ⟨(some 33), .bslice 3 1 [], none⟩,
  ⟨(some 34), .mv (.t 2), none⟩,
  ⟨(some 35), .app 3 1 8 (.t 33) (.t 34), none⟩,
  ⟨(some 36), .mv (.t 11), none⟩,
  ⟨(some 37), .bslice 3 1 [(.t 36)], none⟩,
  ⟨(some 38), .app 3 1 8 (.t 35) (.t 37), none⟩,
  ⟨(some 39), .mv (.t 11), none⟩,
  ⟨(some 40), .bin .add (.t 39) (.k (.I 1)), none⟩,
  ⟨(some 41), .mv (.t 4), none⟩,
  ⟨(some 42), .call 44 [(.t 31), (.t 32), (.t 38), (.t 40), (.t 41)], none⟩,
  ⟨(some 12), .mv (.t 42), none⟩] false
abbrev c44_18 : AC := .reg [⟨(some 43), .mv (.t 12), none⟩,
  ⟨(some 44), .isnil true (.t 43), none⟩] false
abbrev c44_19 : AC := .reg [⟨(some 45), .mv (.t 12), none⟩,
  ⟨(some 10), .mv (.t 45), none⟩] false
abbrev c44_20 : AC := .seq c44_19 .ret
abbrev c44_21 : AC := .cond (.t 44) c44_20 .skip
abbrev c44_22 : AC := .seq c44_18 c44_21
abbrev c44_23 : AC := .seq c44_17 c44_22
abbrev c44_24 : AC := .block 1 c44_23
abbrev c44_25 : AC := .reg [⟨(some 29), .mv (.t 11), none⟩,
  ⟨(some 30), .bin .add (.t 29) (.k (.I 1)), none⟩,
  ⟨(some 11), .mv (.t 30), none⟩] false
abbrev c44_26 : AC := .seq c44_24 c44_25
abbrev c44_27 : AC := .seq c44_16 c44_26
abbrev c44_28 : AC := .loop c44_27
abbrev c44_29 : AC := .block 0 c44_28
abbrev c44_30 : AC := .seq c44_13 c44_29
abbrev c44_31 : AC := .reg [⟨(some 10), .mv (.k (.c .nil)), none⟩] false
abbrev c44_32 : AC := .seq c44_31 .ret
abbrev c44_33 : AC := .seq c44_30 c44_32
abbrev c44_34 : AC := .seq c44_12 c44_33
abbrev c44_35 : AC := .seq c44_1 c44_34
abbrev c44 : AC := c44_35
theorem code44 : fnCode Try.prog 44 = some (c44, [10], 46) := by kernel_rfl
/- slices.Clone[[]int,int] -/
abbrev c49_1 : AC := .reg [⟨(some 2), .mv (.k (.c .nil)), none⟩] false
abbrev c49_2 : AC := .reg [⟨(some 3), .mv (.t 0), none⟩,
  ⟨(some 4), .isnil false (.t 3), none⟩] false
abbrev c49_3 : AC := .reg [⟨(some 2), .mv (.k (.c .nil)), none⟩] false
abbrev c49_4 : AC := .seq c49_3 .ret
abbrev c49_5 : AC := .cond (.t 4) c49_4 .skip
abbrev c49_6 : AC := .seq c49_2 c49_5
abbrev c49_7 : AC := .reg [⟨(some 5), .bslice 3 1 [], none⟩,
  ⟨(some 6), .mv (.t 0), none⟩,
  ⟨(some 7), .app 3 1 8 (.t 5) (.t 6), none⟩,
  ⟨(some 2), .mv (.t 7), none⟩] false
abbrev c49_8 : AC := .seq c49_7 .ret
abbrev c49_9 : AC := .seq c49_6 c49_8
abbrev c49_10 : AC := .seq c49_1 c49_9
abbrev c49 : AC := c49_10
theorem code49 : fnCode Try.prog 49 = some (c49, [2], 8) := by kernel_rfl
/- coinage/consecutive.visitAll -/
abbrev c50_1 : AC := .reg [⟨(some 6), .mv (.k (.c .nil)), none⟩] false
abbrev c50_2 : AC := .reg [⟨(some 9), .mv (.t 1), none⟩,
  ⟨(some 10), .len (.t 9), none⟩,
  ⟨(some 11), .mv (.k (.I 0)), none⟩] false
abbrev c50_3 : AC := .reg [⟨(some 12), .bin .lss (.t 11) (.t 10), none⟩] false
abbrev c50_4 : AC := .cond (.t 12) .skip (.exit 0)
abbrev c50_5 : AC := .reg [⟨(some 13), .iad 1 (.t 9) (.t 11), none⟩,
  ⟨(some 14), .ld none (.t 13), none⟩,
  ⟨(some 8), .mv (.t 14), none⟩] false
abbrev c50_6 : AC := .reg [⟨(some 15), .mv (.t 6), none⟩,
  ⟨(some 16), .mv (.t 8), none⟩,
  ⟨(some 17), .len (.t 16), none⟩,
  ⟨(some 18), .bslice 3 1 [(.t 17)], none⟩,
  ⟨(some 19), .app 3 1 8 (.t 15) (.t 18), none⟩,
  ⟨(some 6), .mv (.t 19), none⟩] false
abbrev c50_7 : AC := .seq c50_5 c50_6
abbrev c50_8 : AC := .block 1 c50_7
abbrev c50_9 : AC := .reg [⟨(some 20), .bin .add (.t 11) (.k (.I 1)), none⟩,
  ⟨(some 11), .mv (.t 20), none⟩] false
abbrev c50_10 : AC := .seq c50_8 c50_9
abbrev c50_11 : AC := .seq c50_4 c50_10
abbrev c50_12 : AC := .seq c50_3 c50_11
abbrev c50_13 : AC := .loop c50_12
abbrev c50_14 : AC := .block 0 c50_13
abbrev c50_15 : AC := .seq c50_2 c50_14
abbrev c50_16 : AC := .reg [⟨(some 21), .mv (.t 0), none⟩,
  ⟨(some 22), .mv (.t 1), none⟩,
  ⟨(some 23), .mv (.t 6), none⟩,
  ⟨(some 24), .mv (.t 2), none⟩,
  ⟨(some 25), .call 55 [(.t 21), (.t 22), (.k (.c .nil)), (.t 23), (.t 24)], none⟩] false
abbrev c50_17 : AC := .seq c50_15 c50_16
abbrev c50_18 : AC := .seq c50_1 c50_17
abbrev c50 : AC := c50_18
theorem code50 : fnCode Try.prog 50 = some (c50, [], 26) := by kernel_rfl
/- coinage/consecutive.First$1 -/
abbrev c51_1 : AC := .reg [⟨(some 4), .mv (.k (.B false)), none⟩] false
abbrev c51_2 : AC := .reg [⟨(some 5), .mv (.t 0), none⟩,
  ⟨none, .st none (.t 1) (.t 5), none⟩,
  ⟨none, .st none (.t 2) (.k (.B true)), none⟩] false
abbrev c51_3 : AC := .reg [⟨(some 4), .mv (.k (.B false)), none⟩] false
abbrev c51_4 : AC := .seq c51_3 .ret
abbrev c51_5 : AC := .seq c51_2 c51_4
abbrev c51_6 : AC := .seq c51_1 c51_5
abbrev c51 : AC := c51_6
theorem code51 : fnCode Try.prog 51 = some (c51, [4], 6) := by kernel_rfl
/- coinage/coinageref27.All -/
abbrev c47_1 : AC := .reg [⟨(some 4), .mv (.k (.c .nil)), none⟩] false
abbrev c47_2 : AC := .reg [⟨(some 5), .mv (.k (.c .nil)), none⟩] false
abbrev c47_3 : AC := .reg [⟨(some 8), .mv (.t 0), none⟩,
  ⟨(some 9), .call 53 [(.t 8)], none⟩,
  ⟨(some 6), .mv (.t 9), none⟩] false
abbrev c47_4 : AC := .reg [⟨(some 7), .mv (.k (.I 0)), none⟩] false
abbrev c47_5 : AC := .reg [⟨(some 10), .mv (.t 7), none⟩,
  ⟨(some 11), .mv (.t 6), none⟩,
  ⟨(some 12), .len (.t 11), none⟩,
  ⟨(some 13), .bin .lss (.t 10) (.t 12), none⟩] false
abbrev c47_6 : AC := .cond (.t 13) .skip (.exit 0)
abbrev c47_7 : AC := .seq c47_5 c47_6
abbrev c47_8 : AC := .reg [⟨(some 16), .mv (.t 0), none⟩,
  ⟨(some 17), .mv (.t 1), none⟩,
  ⟨(some 18), .mv (.t 6), none⟩,
  ⟨(some 19), .mv (.t 7), none⟩,
  ⟨(some 20), .iad 1 (.t 18) (.t 19), none⟩,
  ⟨(some 21), .ld none (.t 20), none⟩,
  ⟨(some 22), .call 54 [(.t 16), (.t 17), (.t 21)], none⟩] false
abbrev c47_9 : AC := .reg [⟨(some 23), .mv (.t 5), none⟩,
  ⟨(some 24), .mv (.t 6), none⟩,
  ⟨(some 25), .mv (.t 7), none⟩,
  ⟨(some 26), .iad 1 (.t 24) (.t 25), none⟩,
  ⟨(some 27), .ld none (.t 26), none⟩,
  ⟨(some 28), .bslice 23 1 [(.t 27)], none⟩,
  ⟨(some 29), .app 23 1 24 (.t 23) (.t 28), none⟩,
  ⟨(some 5), .mv (.t 29), none⟩] false
abbrev c47_10 : AC := .cond (.t 22) c47_9 .skip
abbrev c47_11 : AC := .seq c47_8 c47_10
abbrev c47_12 : AC := .block 1 c47_11
abbrev c47_13 : AC := .reg [⟨(some 14), .mv (.t 7), none⟩,
  ⟨(some 15), .bin .add (.t 14) (.k (.I 1)), none⟩,
  ⟨(some 7), .mv (.t 15), none⟩] false
abbrev c47_14 : AC := .seq c47_12 c47_13
abbrev c47_15 : AC := .seq c47_7 c47_14
abbrev c47_16 : AC := .loop c47_15
abbrev c47_17 : AC := .block 0 c47_16
abbrev c47_18 : AC := .seq c47_4 c47_17
abbrev c47_19 : AC := .reg [⟨(some 30), .mv (.t 5), none⟩,
  ⟨(some 4), .mv (.t 30), none⟩] false
abbrev c47_20 : AC := .seq c47_19 .ret
abbrev c47_21 : AC := .seq c47_18 c47_20
abbrev c47_22 : AC := .seq c47_3 c47_21
abbrev c47_23 : AC := .seq c47_2 c47_22
abbrev c47_24 : AC := .seq c47_1 c47_23
abbrev c47 : AC := c47_24
theorem code47 : fnCode Try.prog 47 = some (c47, [4], 31) := by kernel_rfl
/- coinage/coinagebase.Order -/
abbrev c59_1 : AC := .reg [⟨(some 4), .mv (.k (.B false)), none⟩] false
abbrev c59_2 : AC := .reg [⟨(some 7), .mv (.t 0), none⟩,
  ⟨(some 8), .len (.t 7), none⟩,
  ⟨(some 9), .mv (.t 1), none⟩,
  ⟨(some 10), .bin .neq (.t 8) (.t 9), none⟩] false
abbrev c59_3 : AC := .reg [⟨(some 4), .mv (.k (.B false)), none⟩] false
abbrev c59_4 : AC := .seq c59_3 .ret
abbrev c59_5 : AC := .cond (.t 10) c59_4 .skip
abbrev c59_6 : AC := .seq c59_2 c59_5
abbrev c59_7 : AC := .reg [⟨(some 5), .mv (.k (.I 0)), none⟩] false
abbrev c59_8 : AC := .reg [⟨(some 11), .mv (.t 5), none⟩,
  ⟨(some 12), .mv (.t 1), none⟩,
  ⟨(some 13), .bin .lss (.t 11) (.t 12), none⟩] false
abbrev c59_9 : AC := .cond (.t 13) .skip (.exit 0)
abbrev c59_10 : AC := .seq c59_8 c59_9
abbrev c59_11 : AC := .reg [⟨(some 16), .mv (.t 0), none⟩,
  ⟨(some 17), .mv (.t 5), none⟩,
  ⟨(some 18), .iad 1 (.t 16) (.t 17), none⟩,
  ⟨(some 19), .ld none (.t 18), none⟩,
  ⟨(some 20), .bin .lss (.t 19) (.k (.I 0)), none⟩,
  ⟨(some 21), .mv (.t 20), none⟩,
  ⟨(some 22), .mv (.t 0), (some (21, false))⟩,
  ⟨(some 23), .mv (.t 5), (some (21, false))⟩,
  ⟨(some 24), .iad 1 (.t 22) (.t 23), (some (21, false))⟩,
  ⟨(some 25), .ld none (.t 24), (some (21, false))⟩,
  ⟨(some 26), .mv (.t 1), (some (21, false))⟩,
  ⟨(some 27), .bin .geq (.t 25) (.t 26), (some (21, false))⟩,
  ⟨(some 28), .pick (.t 21) (.k (.B true)) (.t 27), none⟩] false
abbrev c59_12 : AC := .reg [⟨(some 4), .mv (.k (.B false)), none⟩] false
abbrev c59_13 : AC := .seq c59_12 .ret
abbrev c59_14 : AC := .cond (.t 28) c59_13 .skip
abbrev c59_15 : AC := .seq c59_11 c59_14
abbrev c59_16 : AC := .reg [⟨(some 6), .mv (.k (.I 0)), none⟩] false
abbrev c59_17 : AC := .reg [⟨(some 29), .mv (.t 6), none⟩,
  ⟨(some 30), .mv (.t 5), none⟩,
  ⟨(some 31), .bin .lss (.t 29) (.t 30), none⟩] false
abbrev c59_18 : AC := .cond (.t 31) .skip (.exit 2)
abbrev c59_19 : AC := .seq c59_17 c59_18
abbrev c59_20 : AC := .regD [(⟨(some 34), .mv (.t 0), none⟩, [0]),
  (⟨(some 35), .mv (.t 5), none⟩, [5]),
  (⟨(some 36), .iad 1 (.t 34) (.t 35), none⟩, [34, 35]),
  (⟨(some 37), .ld none (.t 36), none⟩, [36]),
  (⟨(some 38), .mv (.t 0), none⟩, [0]),
  (⟨(some 39), .mv (.t 6), none⟩, [6]),
  (⟨(some 40), .iad 1 (.t 38) (.t 39), none⟩, [38, 39]),
  (⟨(some 41), .ld none (.t 40), none⟩, [40]),
  (⟨(some 42), .bin .eql (.t 37) (.t 41), none⟩, [37, 41])]
abbrev c59_21 : AC := .reg [⟨(some 4), .mv (.k (.B false)), none⟩] false
abbrev c59_22 : AC := .seq c59_21 .ret
abbrev c59_23 : AC := .cond (.t 42) c59_22 .skip
abbrev c59_24 : AC := .seq c59_20 c59_23
abbrev c59_25 : AC := .block 3 c59_24
abbrev c59_26 : AC := .reg [⟨(some 32), .mv (.t 6), none⟩,
  ⟨(some 33), .bin .add (.t 32) (.k (.I 1)), none⟩,
  ⟨(some 6), .mv (.t 33), none⟩] false
abbrev c59_27 : AC := .seq c59_25 c59_26
abbrev c59_28 : AC := .seq c59_19 c59_27
abbrev c59_29 : AC := .loop c59_28
abbrev c59_30 : AC := .block 2 c59_29
abbrev c59_31 : AC := .seq c59_16 c59_30
abbrev c59_32 : AC := .seq c59_15 c59_31
abbrev c59_33 : AC := .block 1 c59_32
abbrev c59_34 : AC := .reg [⟨(some 14), .mv (.t 5), none⟩,
  ⟨(some 15), .bin .add (.t 14) (.k (.I 1)), none⟩,
  ⟨(some 5), .mv (.t 15), none⟩] false
abbrev c59_35 : AC := .seq c59_33 c59_34
abbrev c59_36 : AC := .seq c59_10 c59_35
abbrev c59_37 : AC := .loop c59_36
abbrev c59_38 : AC := .block 0 c59_37
abbrev c59_39 : AC := .seq c59_7 c59_38
abbrev c59_40 : AC := .reg [⟨(some 4), .mv (.k (.B true)), none⟩] false
abbrev c59_41 : AC := .seq c59_40 .ret
abbrev c59_42 : AC := .seq c59_39 c59_41
abbrev c59_43 : AC := .seq c59_6 c59_42
abbrev c59_44 : AC := .seq c59_1 c59_43
abbrev c59 : AC := c59_44
theorem code59 : fnCode Try.prog 59 = some (c59, [4], 43) := by kernel_rfl
/- coinage/coinageref27.runs -/
abbrev c60_1 : AC := .reg [⟨(some 4), .mv (.k (.I 0)), none⟩] false
abbrev c60_2 : AC := .reg [⟨(some 5), .mv (.k (.I 0)), none⟩] false
abbrev c60_3 : AC := .reg [⟨(some 6), .mv (.k (.I 0)), none⟩] false
abbrev c60_4 : AC := .reg [⟨(some 7), .mv (.t 6), none⟩,
  ⟨(some 8), .mv (.t 1), none⟩,
  ⟨(some 9), .len (.t 8), none⟩,
  ⟨(some 10), .bin .lss (.t 7) (.t 9), none⟩] false
abbrev c60_5 : AC := .cond (.t 10) .skip (.exit 0)
abbrev c60_6 : AC := .seq c60_4 c60_5
abbrev c60_7 : AC := .reg [⟨(some 13), .mv (.t 0), none⟩,
  ⟨(some 14), .mv (.t 1), none⟩,
  ⟨(some 15), .mv (.t 6), none⟩,
  ⟨(some 16), .iad 1 (.t 14) (.t 15), none⟩,
  ⟨(some 17), .ld none (.t 16), none⟩,
  ⟨(some 18), .call 46 [(.t 13), (.t 17)], none⟩,
  ⟨(some 19), .mv (.t 18), none⟩,
  ⟨(some 20), .mv (.t 6), (some (19, true))⟩,
  ⟨(some 21), .bin .eql (.t 20) (.k (.I 0)), (some (19, true))⟩,
  ⟨(some 22), .mv (.t 21), (some (19, true))⟩,
  ⟨(some 23), .mv (.t 0), (some (22, false))⟩,
  ⟨(some 24), .mv (.t 1), (some (22, false))⟩,
  ⟨(some 25), .mv (.t 6), (some (22, false))⟩,
  ⟨(some 26), .bin .sub (.t 25) (.k (.I 1)), (some (22, false))⟩,
  ⟨(some 27), .iad 1 (.t 24) (.t 26), (some (22, false))⟩,
  ⟨(some 28), .ld none (.t 27), (some (22, false))⟩,
  ⟨(some 29), .call 46 [(.t 23), (.t 28)], (some (22, false))⟩,
  ⟨(some 30), .not (.t 29), (some (22, false))⟩,
  ⟨(some 31), .pick (.t 22) (.k (.B true)) (.t 30), (some (19, true))⟩,
  ⟨(some 32), .pick (.t 19) (.t 31) (.k (.B false)), none⟩] false
abbrev c60_8 : AC := .reg [⟨(some 33), .mv (.t 5), none⟩,
  ⟨(some 34), .bin .add (.t 33) (.k (.I 1)), none⟩,
  ⟨(some 5), .mv (.t 34), none⟩] false
abbrev c60_9 : AC := .cond (.t 32) c60_8 .skip
abbrev c60_10 : AC := .seq c60_7 c60_9
abbrev c60_11 : AC := .block 1 c60_10
abbrev c60_12 : AC := .reg [⟨(some 11), .mv (.t 6), none⟩,
  ⟨(some 12), .bin .add (.t 11) (.k (.I 1)), none⟩,
  ⟨(some 6), .mv (.t 12), none⟩] false
abbrev c60_13 : AC := .seq c60_11 c60_12
abbrev c60_14 : AC := .seq c60_6 c60_13
abbrev c60_15 : AC := .loop c60_14
abbrev c60_16 : AC := .block 0 c60_15
abbrev c60_17 : AC := .seq c60_3 c60_16
abbrev c60_18 : AC := .reg [⟨(some 35), .mv (.t 5), none⟩,
  ⟨(some 4), .mv (.t 35), none⟩] false
abbrev c60_19 : AC := .seq c60_18 .ret
abbrev c60_20 : AC := .seq c60_17 c60_19
abbrev c60_21 : AC := .seq c60_2 c60_20
abbrev c60_22 : AC := .seq c60_1 c60_21
abbrev c60 : AC := c60_22
theorem code60 : fnCode Try.prog 60 = some (c60, [4], 36) := by kernel_rfl
/- slices.Contains[[]int,int] -/
abbrev c57_1 : AC := .reg [⟨(some 4), .mv (.k (.B false)), none⟩] false
abbrev c57_2 : AC := .reg [⟨(some 5), .mv (.t 0), none⟩,
  ⟨(some 6), .mv (.t 1), none⟩,
  ⟨(some 7), .call 31 [(.t 5), (.t 6)], none⟩,
  ⟨(some 8), .bin .geq (.t 7) (.k (.I 0)), none⟩,
  ⟨(some 4), .mv (.t 8), none⟩] false
abbrev c57_3 : AC := .seq c57_2 .ret
abbrev c57_4 : AC := .seq c57_1 c57_3
abbrev c57 : AC := c57_4
theorem code57 : fnCode Try.prog 57 = some (c57, [4], 9) := by kernel_rfl
/- slices.IndexFunc[[]int,int] -/
abbrev c52_1 : AC := .reg [⟨(some 4), .mv (.k (.I 0)), none⟩] false
abbrev c52_2 : AC := .reg [⟨(some 6), .mv (.t 0), none⟩,
  ⟨(some 7), .len (.t 6), none⟩,
  ⟨(some 8), .mv (.k (.I 0)), none⟩] false
abbrev c52_3 : AC := .reg [⟨(some 9), .bin .lss (.t 8) (.t 7), none⟩] false
abbrev c52_4 : AC := .cond (.t 9) .skip (.exit 0)
abbrev c52_5 : AC := .reg [⟨(some 10), .mv (.t 8), none⟩,
  ⟨(some 5), .mv (.t 10), none⟩] false
abbrev c52_6 : AC := .reg [⟨(some 11), .mv (.t 1), none⟩,
  ⟨(some 12), .mv (.t 0), none⟩,
  ⟨(some 13), .mv (.t 5), none⟩,
  ⟨(some 14), .iad 1 (.t 12) (.t 13), none⟩,
  ⟨(some 15), .ld none (.t 14), none⟩,
  ⟨(some 16), .callv (.t 11) [(.t 15)], none⟩] false
abbrev c52_7 : AC := .reg [⟨(some 17), .mv (.t 5), none⟩,
  ⟨(some 4), .mv (.t 17), none⟩] false
abbrev c52_8 : AC := .seq c52_7 .ret
abbrev c52_9 : AC := .cond (.t 16) c52_8 .skip
abbrev c52_10 : AC := .seq c52_6 c52_9
abbrev c52_11 : AC := .seq c52_5 c52_10
abbrev c52_12 : AC := .block 1 c52_11
abbrev c52_13 : AC := .reg [⟨(some 18), .bin .add (.t 8) (.k (.I 1)), none⟩,
  ⟨(some 8), .mv (.t 18), none⟩] false
abbrev c52_14 : AC := .seq c52_12 c52_13
abbrev c52_15 : AC := .seq c52_4 c52_14
abbrev c52_16 : AC := .seq c52_3 c52_15
abbrev c52_17 : AC := .loop c52_16
abbrev c52_18 : AC := .block 0 c52_17
abbrev c52_19 : AC := .seq c52_2 c52_18
abbrev c52_20 : AC := .reg [⟨(some 4), .mv (.k (.I (-1))), none⟩] false
abbrev c52_21 : AC := .seq c52_20 .ret
abbrev c52_22 : AC := .seq c52_19 c52_21
abbrev c52_23 : AC := .seq c52_1 c52_22
abbrev c52 : AC := c52_23
theorem code52 : fnCode Try.prog 52 = some (c52, [4], 19) := by kernel_rfl
/- coinage/consecutive.walk -/
abbrev c55_1 : AC := .reg [⟨(some 10), .mv (.k (.B false)), none⟩] false
abbrev c55_2 : AC := .reg [⟨(some 16), .mv (.t 2), none⟩,
  ⟨(some 17), .len (.t 16), none⟩,
  ⟨(some 18), .mv (.t 0), none⟩,
  ⟨(some 19), .bin .eql (.t 17) (.t 18), none⟩] false
abbrev c55_3 : AC := .reg [⟨(some 20), .mv (.t 4), none⟩,
  ⟨(some 21), .mv (.t 2), none⟩,
  ⟨(some 22), .callv (.t 20) [(.t 21)], none⟩,
  ⟨(some 10), .mv (.t 22), none⟩] false
abbrev c55_4 : AC := .seq c55_3 .ret
abbrev c55_5 : AC := .cond (.t 19) c55_4 .skip
abbrev c55_6 : AC := .seq c55_2 c55_5
abbrev c55_7 : AC := .reg [⟨(some 23), .mv (.t 0), none⟩,
  ⟨(some 24), .mv (.k (.I 0)), none⟩] false
abbrev c55_8 : AC := .reg [⟨(some 25), .bin .lss (.t 24) (.t 23), none⟩] false
abbrev c55_9 : AC := .cond (.t 25) .skip (.exit 0)
abbrev c55_10 : AC := .reg [⟨(some 26), .mv (.t 24), none⟩,
  ⟨(some 11), .mv (.t 26), none⟩] false
abbrev c55_11 : AC := .reg [⟨(some 27), .mv (.t 2), none⟩,
  ⟨(some 28), .mv (.t 11), none⟩,
  ⟨(some 29), .call 57 [(.t 27), (.t 28)], none⟩] false
abbrev c55_12 : AC := .cond (.t 29) (.exit 1) .skip
abbrev c55_13 : AC := .seq c55_11 c55_12
abbrev c55_14 : AC := .reg [⟨(some 30), .mv (.t 3), none⟩,
  ⟨(some 31), .call 49 [(.t 30)], none⟩,
  ⟨(some 12), .mv (.t 31), none⟩,
  ⟨(some 13), .mv (.k (.B true)), none⟩] false
abbrev c55_15 : AC := .reg [⟨(some 32), .mv (.t 1), none⟩,
  ⟨(some 33), .len (.t 32), none⟩,
  ⟨(some 34), .mv (.k (.I 0)), none⟩] false
abbrev c55_16 : AC := .reg [⟨(some 35), .bin .lss (.t 34) (.t 33), none⟩] false
abbrev c55_17 : AC := .cond (.t 35) .skip (.exit 2)
abbrev c55_18 : AC := .reg [⟨(some 36), .mv (.t 34), none⟩,
  ⟨(some 37), .iad 1 (.t 32) (.t 34), none⟩,
  ⟨(some 38), .ld none (.t 37), none⟩,
  ⟨(some 14), .mv (.t 36), none⟩,
  ⟨(some 15), .mv (.t 38), none⟩] false
abbrev c55_19 : AC := .reg [⟨(some 39), .mv (.t 15), none⟩,
  ⟨(some 40), .mv (.t 11), none⟩,
  ⟨(some 41), .call 57 [(.t 39), (.t 40)], none⟩] false
abbrev c55_20 : AC := .reg [⟨(some 42), .mv (.t 12), none⟩,
  ⟨(some 43), .mv (.t 14), none⟩,
  ⟨(some 44), .iad 1 (.t 42) (.t 43), none⟩,
  ⟨(some 45), .ld none (.t 44), none⟩,
  ⟨(some 46), .bin .sub (.t 45) (.k (.I 1)), none⟩,
  ⟨(some 47), .iad 1 (.t 42) (.t 43), none⟩,
  ⟨none, .st none (.t 47) (.t 46), none⟩] false
abbrev c55_21 : AC := .reg [⟨(some 48), .mv (.t 3), none⟩,
  ⟨(some 49), .mv (.t 14), none⟩,
  ⟨(some 50), .iad 1 (.t 48) (.t 49), none⟩,
  ⟨(some 51), .ld none (.t 50), none⟩,
  ⟨(some 52), .bin .gtr (.t 51) (.k (.I 0)), none⟩,
  ⟨(some 53), .mv (.t 52), none⟩,
  ⟨(some 54), .mv (.t 3), (some (53, true))⟩,
  ⟨(some 55), .mv (.t 14), (some (53, true))⟩,
  ⟨(some 56), .iad 1 (.t 54) (.t 55), (some (53, true))⟩,
  ⟨(some 57), .ld none (.t 56), (some (53, true))⟩,
  ⟨(some 58), .mv (.t 15), (some (53, true))⟩,
  ⟨(some 59), .len (.t 58), (some (53, true))⟩,
  ⟨(some 60), .bin .lss (.t 57) (.t 59), (some (53, true))⟩,
  ⟨(some 61), .pick (.t 53) (.t 60) (.k (.B false)), none⟩] false
abbrev c55_22 : AC := .reg [⟨(some 13), .mv (.k (.B false)), none⟩] false
abbrev c55_23 : AC := .cond (.t 61) c55_22 .skip
abbrev c55_24 : AC := .seq c55_21 c55_23
abbrev c55_25 : AC := .cond (.t 41) c55_20 c55_24
abbrev c55_26 : AC := .seq c55_19 c55_25
abbrev c55_27 : AC := .seq c55_18 c55_26
abbrev c55_28 : AC := .block 3 c55_27
abbrev c55_29 : AC := .reg [⟨(some 62), .bin .add (.t 34) (.k (.I 1)), none⟩,
  ⟨(some 34), .mv (.t 62), none⟩] false
abbrev c55_30 : AC := .seq c55_28 c55_29
abbrev c55_31 : AC := .seq c55_17 c55_30
abbrev c55_32 : AC := .seq c55_16 c55_31
abbrev c55_33 : AC := .loop c55_32
abbrev c55_34 : AC := .block 2 c55_33
abbrev c55_35 : AC := .seq c55_15 c55_34
abbrev c55_36 : AC := .reg [⟨(some 63), .mv (.t 13), none⟩,
  ⟨(some 64), .mv (.t 63), none⟩,
  ⟨(some 65), .mv (.t 0), (some (64, true))⟩,
  ⟨(some 66), .mv (.t 1), (some (64, true))⟩,
  ⟨(some 67), .mv (.t 2), (some (64, true))⟩,
  ⟨(some 68), .call 49 [(.t 67)], (some (64, true))⟩,
  ⟨(some 69), .mv (.t 11), (some (64, true))⟩,
  ⟨(some 70), .bslice 3 1 [(.t 69)], (some (64, true))⟩,
  ⟨(some 71), .app 3 1 8 (.t 68) (.t 70), (some (64, true))⟩,
  ⟨(some 72), .mv (.t 12), (some (64, true))⟩,
  ⟨(some 73), .mv (.t 4), (some (64, true))⟩,
  ⟨(some 74), .call 55 [(.t 65), (.t 66), (.t 71), (.t 72), (.t 73)], (some (64, true))⟩,
  ⟨(some 75), .not (.t 74), (some (64, true))⟩,
  ⟨(some 76), .pick (.t 64) (.t 75) (.k (.B false)), none⟩] false
abbrev c55_37 : AC := .reg [⟨(some 10), .mv (.k (.B false)), none⟩] false
abbrev c55_38 : AC := .seq c55_37 .ret
abbrev c55_39 : AC := .cond (.t 76) c55_38 .skip
abbrev c55_40 : AC := .seq c55_36 c55_39
abbrev c55_41 : AC := .seq c55_35 c55_40
abbrev c55_42 : AC := .seq c55_14 c55_41
abbrev c55_43 : AC := .seq c55_13 c55_42
abbrev c55_44 : AC := .seq c55_10 c55_43
abbrev c55_45 : AC := .block 1 c55_44
abbrev c55_46 : AC := .reg [⟨(some 77), .bin .add (.t 24) (.k (.I 1)), none⟩,
  ⟨(some 24), .mv (.t 77), none⟩] false
abbrev c55_47 : AC := .seq c55_45 c55_46
abbrev c55_48 : AC := .seq c55_9 c55_47
abbrev c55_49 : AC := .seq c55_8 c55_48
abbrev c55_50 : AC := .loop c55_49
abbrev c55_51 : AC := .block 0 c55_50
abbrev c55_52 : AC := .seq c55_7 c55_51
abbrev c55_53 : AC := .reg [⟨(some 10), .mv (.k (.B true)), none⟩] false
abbrev c55_54 : AC := .seq c55_53 .ret
abbrev c55_55 : AC := .seq c55_52 c55_54
abbrev c55_56 : AC := .seq c55_6 c55_55
abbrev c55_57 : AC := .seq c55_1 c55_56
abbrev c55 : AC := c55_57
theorem code55 : fnCode Try.prog 55 = some (c55, [10], 78) := by kernel_rfl
/- coinage/coinageref27.Orders -/
abbrev c53_1 : AC := .reg [⟨(some 2), .mv (.k (.c .nil)), none⟩] false
abbrev c53_2 : AC := .reg [⟨(some 8), .bslice 23 1 [(.k (.c .nil))], none⟩,
  ⟨(some 3), .mv (.t 8), none⟩] false
abbrev c53_3 : AC := .reg [⟨(some 4), .mv (.k (.I 0)), none⟩] false
abbrev c53_4 : AC := .reg [⟨(some 9), .mv (.t 4), none⟩,
  ⟨(some 10), .mv (.t 0), none⟩,
  ⟨(some 11), .bin .lss (.t 9) (.t 10), none⟩] false
abbrev c53_5 : AC := .cond (.t 11) .skip (.exit 0)
abbrev c53_6 : AC := .seq c53_4 c53_5
abbrev c53_7 : AC := .reg [⟨(some 5), .mv (.k (.c .nil)), none⟩] false
abbrev c53_8 : AC := .reg [⟨(some 6), .mv (.k (.I 0)), none⟩] false
abbrev c53_9 : AC := .reg [⟨(some 14), .mv (.t 6), none⟩,
  ⟨(some 15), .mv (.t 3), none⟩,
  ⟨(some 16), .len (.t 15), none⟩,
  ⟨(some 17), .bin .lss (.t 14) (.t 16), none⟩] false
abbrev c53_10 : AC := .cond (.t 17) .skip (.exit 2)
abbrev c53_11 : AC := .seq c53_9 c53_10
abbrev c53_12 : AC := .reg [⟨(some 7), .mv (.k (.I 0)), none⟩] false
abbrev c53_13 : AC := .reg [⟨(some 20), .mv (.t 7), none⟩,
  ⟨(some 21), .mv (.t 0), none⟩,
  ⟨(some 22), .bin .lss (.t 20) (.t 21), none⟩] false
abbrev c53_14 : AC := .cond (.t 22) .skip (.exit 4)
abbrev c53_15 : AC := .seq c53_13 c53_14
abbrev c53_16 : AC := .reg [⟨(some 25), .mv (.t 3), none⟩,
  ⟨(some 26), .mv (.t 6), none⟩,
  ⟨(some 27), .iad 1 (.t 25) (.t 26), none⟩,
  ⟨(some 28), .ld none (.t 27), none⟩,
  ⟨(some 29), .mv (.t 7), none⟩,
  ⟨(some 30), .call 46 [(.t 28), (.t 29)], none⟩,
  ⟨(some 31), .not (.t 30), none⟩] false
abbrev c53_17 : AC := .reg [⟨(some 32), .mv (.t 5), none⟩,
  ⟨(some 33), .bslice 3 1 [], none⟩,
  ⟨(some 34), .mv (.t 3), none⟩,
  ⟨(some 35), .mv (.t 6), none⟩,
  ⟨(some 36), .iad 1 (.t 34) (.t 35), none⟩,
  ⟨(some 37), .ld none (.t 36), none⟩,
  ⟨(some 38), .app 3 1 8 (.t 33) (.t 37), none⟩,
  ⟨(some 39), .mv (.t 7), none⟩,
  ⟨(some 40), .bslice 3 1 [(.t 39)], none⟩,
  ⟨(some 41), .app 3 1 8 (.t 38) (.t 40), none⟩,
  ⟨(some 42), .bslice 23 1 [(.t 41)], none⟩,
  ⟨(some 43), .app 23 1 24 (.t 32) (.t 42), none⟩,
  ⟨(some 5), .mv (.t 43), none⟩] false
abbrev c53_18 : AC := .cond (.t 31) c53_17 .skip
abbrev c53_19 : AC := .seq c53_16 c53_18
abbrev c53_20 : AC := .block 5 c53_19
abbrev c53_21 : AC := .reg [⟨(some 23), .mv (.t 7), none⟩,
  ⟨(some 24), .bin .add (.t 23) (.k (.I 1)), none⟩,
  ⟨(some 7), .mv (.t 24), none⟩] false
abbrev c53_22 : AC := .seq c53_20 c53_21
abbrev c53_23 : AC := .seq c53_15 c53_22
abbrev c53_24 : AC := .loop c53_23
abbrev c53_25 : AC := .block 4 c53_24
abbrev c53_26 : AC := .seq c53_12 c53_25
abbrev c53_27 : AC := .block 3 c53_26
abbrev c53_28 : AC := .reg [⟨(some 18), .mv (.t 6), none⟩,
  ⟨(some 19), .bin .add (.t 18) (.k (.I 1)), none⟩,
  ⟨(some 6), .mv (.t 19), none⟩] false
abbrev c53_29 : AC := .seq c53_27 c53_28
abbrev c53_30 : AC := .seq c53_11 c53_29
abbrev c53_31 : AC := .loop c53_30
abbrev c53_32 : AC := .block 2 c53_31
abbrev c53_33 : AC := .seq c53_8 c53_32
abbrev c53_34 : AC := .reg [⟨(some 44), .mv (.t 5), none⟩,
  ⟨(some 3), .mv (.t 44), none⟩] false
abbrev c53_35 : AC := .seq c53_33 c53_34
abbrev c53_36 : AC := .seq c53_7 c53_35
abbrev c53_37 : AC := .block 1 c53_36
abbrev c53_38 : AC := .reg [⟨(some 12), .mv (.t 4), none⟩,
  ⟨(some 13), .bin .add (.t 12) (.k (.I 1)), none⟩,
  ⟨(some 4), .mv (.t 13), none⟩] false
abbrev c53_39 : AC := .seq c53_37 c53_38
abbrev c53_40 : AC := .seq c53_6 c53_39
abbrev c53_41 : AC := .loop c53_40
abbrev c53_42 : AC := .block 0 c53_41
abbrev c53_43 : AC := .seq c53_3 c53_42
abbrev c53_44 : AC := .reg [⟨(some 45), .mv (.t 3), none⟩,
  ⟨(some 2), .mv (.t 45), none⟩] false
abbrev c53_45 : AC := .seq c53_44 .ret
abbrev c53_46 : AC := .seq c53_43 c53_45
abbrev c53_47 : AC := .seq c53_2 c53_46
abbrev c53_48 : AC := .seq c53_1 c53_47
abbrev c53 : AC := c53_48
theorem code53 : fnCode Try.prog 53 = some (c53, [2], 46) := by kernel_rfl

end Go.Proofs.Ytjffjapajfhjhaa

