/-
  Lemmas for the proof: no statement of its own.
-/
import Derived.Test.YtklkehlccjofoaaProg
import Derived.Test.YtklkehlccjofoaaAlD
import Derived.KernelRfl
set_option linter.unusedVariables false
set_option linter.unusedSimpArgs false
open Go Go.AL
namespace Go.Proofs.Ytklkehlccjofoaa
/- coinage/coinagelaw12.OpinionDiffs -/
abbrev c3_1 : AC := .reg [⟨(some 4), .mv (.k (.B false)), none⟩] false
abbrev c3_2 : AC := .reg [⟨(some 11), .call 11 [], none⟩,
  ⟨(some 12), .not (.t 11), none⟩,
  ⟨(some 13), .mv (.t 12), none⟩,
  ⟨(some 14), .mv (.t 0), (some (13, false))⟩,
  ⟨(some 15), .call 12 [(.t 14)], (some (13, false))⟩,
  ⟨(some 16), .not (.t 15), (some (13, false))⟩,
  ⟨(some 17), .pick (.t 13) (.k (.B true)) (.t 16), none⟩,
  ⟨(some 18), .mv (.t 17), none⟩,
  ⟨(some 19), .mv (.t 1), (some (18, false))⟩,
  ⟨(some 20), .call 12 [(.t 19)], (some (18, false))⟩,
  ⟨(some 21), .not (.t 20), (some (18, false))⟩,
  ⟨(some 22), .pick (.t 18) (.k (.B true)) (.t 21), none⟩] false
abbrev c3_3 : AC := .reg [⟨(some 23), .call 11 [], none⟩,
  ⟨(some 4), .mv (.t 23), none⟩] false
abbrev c3_4 : AC := .seq c3_3 .ret
abbrev c3_5 : AC := .cond (.t 22) c3_4 .skip
abbrev c3_6 : AC := .seq c3_2 c3_5
abbrev c3_7 : AC := .reg [⟨(some 24), .bslice 43 2 [], none⟩,
  ⟨(some 25), .mv (.t 0), none⟩,
  ⟨(some 26), .app 43 2 16 (.t 24) (.t 25), none⟩,
  ⟨(some 27), .bslice 43 2 [], none⟩,
  ⟨(some 28), .mv (.t 1), none⟩,
  ⟨(some 29), .app 43 2 16 (.t 27) (.t 28), none⟩,
  ⟨(some 5), .mv (.t 26), none⟩,
  ⟨(some 6), .mv (.t 29), none⟩] false
abbrev c3_8 : AC := .reg [⟨(some 31), .mv (.t 5), none⟩,
  ⟨(some 32), .mv (.t 6), none⟩,
  ⟨(some 33), .call 13 [(.t 31), (.t 32)], none⟩,
  ⟨(some 30), .mv (.t 33), none⟩,
  ⟨(some 34), .ext (.t 30) 0, none⟩,
  ⟨(some 35), .ext (.t 30) 1, none⟩,
  ⟨(some 7), .mv (.t 34), none⟩,
  ⟨(some 8), .mv (.t 35), none⟩] false
abbrev c3_9 : AC := .reg [⟨(some 37), .mv (.t 0), none⟩,
  ⟨(some 38), .mv (.t 1), none⟩,
  ⟨(some 39), .call 14 [(.t 37), (.t 38)], none⟩,
  ⟨(some 36), .mv (.t 39), none⟩,
  ⟨(some 40), .ext (.t 36) 0, none⟩,
  ⟨(some 41), .ext (.t 36) 1, none⟩,
  ⟨(some 9), .mv (.t 40), none⟩,
  ⟨(some 10), .mv (.t 41), none⟩] false
abbrev c3_10 : AC := .reg [⟨(some 42), .mv (.t 8), none⟩,
  ⟨(some 43), .mv (.t 10), none⟩,
  ⟨(some 44), .bin .eql (.t 42) (.t 43), none⟩,
  ⟨(some 45), .mv (.t 44), none⟩,
  ⟨(some 46), .mv (.t 7), (some (45, true))⟩,
  ⟨(some 47), .mv (.t 9), (some (45, true))⟩,
  ⟨(some 48), .call 15 [(.t 46), (.t 47)], (some (45, true))⟩,
  ⟨(some 49), .pick (.t 45) (.t 48) (.k (.B false)), none⟩,
  ⟨(some 50), .mv (.t 49), none⟩,
  ⟨(some 51), .mv (.t 5), (some (50, true))⟩,
  ⟨(some 52), .mv (.t 0), (some (50, true))⟩,
  ⟨(some 53), .call 16 [(.t 51), (.t 52)], (some (50, true))⟩,
  ⟨(some 54), .pick (.t 50) (.t 53) (.k (.B false)), none⟩,
  ⟨(some 55), .mv (.t 54), none⟩,
  ⟨(some 56), .mv (.t 6), (some (55, true))⟩,
  ⟨(some 57), .mv (.t 1), (some (55, true))⟩,
  ⟨(some 58), .call 16 [(.t 56), (.t 57)], (some (55, true))⟩,
  ⟨(some 59), .pick (.t 55) (.t 58) (.k (.B false)), none⟩,
  ⟨(some 4), .mv (.t 59), none⟩] false
abbrev c3_11 : AC := .seq c3_10 .ret
abbrev c3_12 : AC := .seq c3_9 c3_11
abbrev c3_13 : AC := .seq c3_8 c3_12
abbrev c3_14 : AC := .seq c3_7 c3_13
abbrev c3_15 : AC := .seq c3_6 c3_14
abbrev c3_16 : AC := .seq c3_1 c3_15
abbrev c3 : AC := c3_16
theorem code3 : fnCode Try.prog 3 = some (c3, [4], 60) := by kernel_rfl
/- coinage/coinagelaw12.OpinionMerges -/
abbrev c4_1 : AC := .reg [⟨(some 6), .mv (.k (.B false)), none⟩] false
abbrev c4_2 : AC := .reg [⟨(some 16), .call 11 [], none⟩,
  ⟨(some 17), .not (.t 16), none⟩,
  ⟨(some 18), .mv (.t 17), none⟩,
  ⟨(some 19), .mv (.t 0), (some (18, false))⟩,
  ⟨(some 20), .call 12 [(.t 19)], (some (18, false))⟩,
  ⟨(some 21), .not (.t 20), (some (18, false))⟩,
  ⟨(some 22), .pick (.t 18) (.k (.B true)) (.t 21), none⟩,
  ⟨(some 23), .mv (.t 22), none⟩,
  ⟨(some 24), .mv (.t 1), (some (23, false))⟩,
  ⟨(some 25), .call 12 [(.t 24)], (some (23, false))⟩,
  ⟨(some 26), .not (.t 25), (some (23, false))⟩,
  ⟨(some 27), .pick (.t 23) (.k (.B true)) (.t 26), none⟩,
  ⟨(some 28), .mv (.t 27), none⟩,
  ⟨(some 29), .mv (.t 2), (some (28, false))⟩,
  ⟨(some 30), .call 12 [(.t 29)], (some (28, false))⟩,
  ⟨(some 31), .not (.t 30), (some (28, false))⟩,
  ⟨(some 32), .pick (.t 28) (.k (.B true)) (.t 31), none⟩] false
abbrev c4_3 : AC := .reg [⟨(some 33), .call 11 [], none⟩,
  ⟨(some 6), .mv (.t 33), none⟩] false
abbrev c4_4 : AC := .seq c4_3 .ret
abbrev c4_5 : AC := .cond (.t 32) c4_4 .skip
abbrev c4_6 : AC := .seq c4_2 c4_5
abbrev c4_7 : AC := .reg [⟨(some 35), .mv (.t 0), none⟩,
  ⟨(some 36), .mv (.t 1), none⟩,
  ⟨(some 37), .mv (.t 2), none⟩,
  ⟨(some 38), .call 17 [(.t 35), (.t 36), (.t 37)], none⟩,
  ⟨(some 34), .mv (.t 38), none⟩,
  ⟨(some 39), .ext (.t 34) 0, none⟩,
  ⟨(some 40), .ext (.t 34) 1, none⟩,
  ⟨(some 41), .ext (.t 34) 2, none⟩,
  ⟨(some 7), .mv (.t 39), none⟩,
  ⟨(some 8), .mv (.t 40), none⟩,
  ⟨(some 9), .mv (.t 41), none⟩] false
abbrev c4_8 : AC := .reg [⟨(some 43), .mv (.t 0), none⟩,
  ⟨(some 44), .mv (.t 2), none⟩,
  ⟨(some 45), .mv (.t 1), none⟩,
  ⟨(some 46), .call 17 [(.t 43), (.t 44), (.t 45)], none⟩,
  ⟨(some 42), .mv (.t 46), none⟩,
  ⟨(some 47), .ext (.t 42) 0, none⟩,
  ⟨(some 48), .ext (.t 42) 1, none⟩,
  ⟨(some 49), .ext (.t 42) 2, none⟩,
  ⟨(some 10), .mv (.t 47), none⟩,
  ⟨(some 11), .mv (.t 48), none⟩,
  ⟨(some 12), .mv (.t 49), none⟩] false
abbrev c4_9 : AC := .reg [⟨(some 51), .mv (.t 0), none⟩,
  ⟨(some 52), .mv (.t 1), none⟩,
  ⟨(some 53), .mv (.t 2), none⟩,
  ⟨(some 54), .call 18 [(.t 51), (.t 52), (.t 53)], none⟩,
  ⟨(some 50), .mv (.t 54), none⟩,
  ⟨(some 55), .ext (.t 50) 0, none⟩,
  ⟨(some 56), .ext (.t 50) 1, none⟩,
  ⟨(some 57), .ext (.t 50) 2, none⟩,
  ⟨(some 13), .mv (.t 55), none⟩,
  ⟨(some 14), .mv (.t 56), none⟩,
  ⟨(some 15), .mv (.t 57), none⟩] false
abbrev c4_10 : AC := .reg [⟨(some 58), .mv (.t 9), none⟩,
  ⟨(some 59), .mv (.t 15), none⟩,
  ⟨(some 60), .bin .eql (.t 58) (.t 59), none⟩,
  ⟨(some 61), .mv (.t 60), none⟩,
  ⟨(some 62), .mv (.t 12), (some (61, true))⟩,
  ⟨(some 63), .mv (.t 15), (some (61, true))⟩,
  ⟨(some 64), .bin .eql (.t 62) (.t 63), (some (61, true))⟩,
  ⟨(some 65), .pick (.t 61) (.t 64) (.k (.B false)), none⟩,
  ⟨(some 66), .mv (.t 65), none⟩,
  ⟨(some 67), .mv (.t 7), (some (66, true))⟩,
  ⟨(some 68), .mv (.t 13), (some (66, true))⟩,
  ⟨(some 69), .call 16 [(.t 67), (.t 68)], (some (66, true))⟩,
  ⟨(some 70), .pick (.t 66) (.t 69) (.k (.B false)), none⟩,
  ⟨(some 71), .mv (.t 70), none⟩,
  ⟨(some 72), .mv (.t 10), (some (71, true))⟩,
  ⟨(some 73), .mv (.t 13), (some (71, true))⟩,
  ⟨(some 74), .call 16 [(.t 72), (.t 73)], (some (71, true))⟩,
  ⟨(some 75), .pick (.t 71) (.t 74) (.k (.B false)), none⟩,
  ⟨(some 76), .mv (.t 75), none⟩,
  ⟨(some 77), .mv (.t 8), (some (76, true))⟩,
  ⟨(some 78), .mv (.t 14), (some (76, true))⟩,
  ⟨(some 79), .call 19 [(.t 77), (.t 78)], (some (76, true))⟩,
  ⟨(some 80), .pick (.t 76) (.t 79) (.k (.B false)), none⟩,
  ⟨(some 81), .mv (.t 80), none⟩,
  ⟨(some 82), .mv (.t 11), (some (81, true))⟩,
  ⟨(some 83), .mv (.t 14), (some (81, true))⟩,
  ⟨(some 84), .call 19 [(.t 82), (.t 83)], (some (81, true))⟩,
  ⟨(some 85), .pick (.t 81) (.t 84) (.k (.B false)), none⟩,
  ⟨(some 6), .mv (.t 85), none⟩] false
abbrev c4_11 : AC := .seq c4_10 .ret
abbrev c4_12 : AC := .seq c4_9 c4_11
abbrev c4_13 : AC := .seq c4_8 c4_12
abbrev c4_14 : AC := .seq c4_7 c4_13
abbrev c4_15 : AC := .seq c4_6 c4_14
abbrev c4_16 : AC := .seq c4_1 c4_15
abbrev c4 : AC := c4_16
theorem code4 : fnCode Try.prog 4 = some (c4, [6], 86) := by kernel_rfl
/- coinage/coinagelaw12.OpinionSides -/
abbrev c5_1 : AC := .reg [⟨(some 4), .mv (.k (.B false)), none⟩] false
abbrev c5_2 : AC := .reg [⟨(some 11), .call 11 [], none⟩,
  ⟨(some 12), .not (.t 11), none⟩,
  ⟨(some 13), .mv (.t 12), none⟩,
  ⟨(some 14), .mv (.t 0), (some (13, false))⟩,
  ⟨(some 15), .call 12 [(.t 14)], (some (13, false))⟩,
  ⟨(some 16), .not (.t 15), (some (13, false))⟩,
  ⟨(some 17), .pick (.t 13) (.k (.B true)) (.t 16), none⟩,
  ⟨(some 18), .mv (.t 17), none⟩,
  ⟨(some 19), .mv (.t 1), (some (18, false))⟩,
  ⟨(some 20), .call 12 [(.t 19)], (some (18, false))⟩,
  ⟨(some 21), .not (.t 20), (some (18, false))⟩,
  ⟨(some 22), .pick (.t 18) (.k (.B true)) (.t 21), none⟩] false
abbrev c5_3 : AC := .reg [⟨(some 23), .call 11 [], none⟩,
  ⟨(some 4), .mv (.t 23), none⟩] false
abbrev c5_4 : AC := .seq c5_3 .ret
abbrev c5_5 : AC := .cond (.t 22) c5_4 .skip
abbrev c5_6 : AC := .seq c5_2 c5_5
abbrev c5_7 : AC := .reg [⟨(some 25), .mv (.t 0), none⟩,
  ⟨(some 26), .mv (.t 0), none⟩,
  ⟨(some 27), .mv (.t 1), none⟩,
  ⟨(some 28), .call 17 [(.t 25), (.t 26), (.t 27)], none⟩,
  ⟨(some 24), .mv (.t 28), none⟩,
  ⟨(some 29), .ext (.t 24) 0, none⟩,
  ⟨(some 30), .ext (.t 24) 1, none⟩,
  ⟨(some 31), .ext (.t 24) 2, none⟩,
  ⟨(some 5), .mv (.t 29), none⟩,
  ⟨(some 6), .mv (.t 30), none⟩,
  ⟨(some 7), .mv (.t 31), none⟩] false
abbrev c5_8 : AC := .reg [⟨(some 33), .mv (.t 0), none⟩,
  ⟨(some 34), .mv (.t 1), none⟩,
  ⟨(some 35), .mv (.t 1), none⟩,
  ⟨(some 36), .call 17 [(.t 33), (.t 34), (.t 35)], none⟩,
  ⟨(some 32), .mv (.t 36), none⟩,
  ⟨(some 37), .ext (.t 32) 0, none⟩,
  ⟨(some 38), .ext (.t 32) 1, none⟩,
  ⟨(some 39), .ext (.t 32) 2, none⟩,
  ⟨(some 8), .mv (.t 37), none⟩,
  ⟨(some 9), .mv (.t 38), none⟩,
  ⟨(some 10), .mv (.t 39), none⟩] false
abbrev c5_9 : AC := .reg [⟨(some 40), .mv (.t 0), none⟩,
  ⟨(some 41), .call 20 [(.t 40)], none⟩,
  ⟨(some 42), .not (.t 41), none⟩,
  ⟨(some 43), .mv (.t 42), none⟩,
  ⟨(some 44), .mv (.t 1), (some (43, false))⟩,
  ⟨(some 45), .call 20 [(.t 44)], (some (43, false))⟩,
  ⟨(some 46), .not (.t 45), (some (43, false))⟩,
  ⟨(some 47), .pick (.t 43) (.k (.B true)) (.t 46), none⟩] false
abbrev c5_10 : AC := .reg [⟨(some 48), .mv (.t 7), none⟩,
  ⟨(some 49), .bin .eql (.t 48) (.k (.I 1)), none⟩,
  ⟨(some 50), .mv (.t 49), none⟩,
  ⟨(some 51), .mv (.t 10), (some (50, true))⟩,
  ⟨(some 52), .bin .eql (.t 51) (.k (.I 1)), (some (50, true))⟩,
  ⟨(some 53), .pick (.t 50) (.t 52) (.k (.B false)), none⟩,
  ⟨(some 54), .mv (.t 53), none⟩,
  ⟨(some 55), .mv (.t 5), (some (54, true))⟩,
  ⟨(some 56), .len (.t 55), (some (54, true))⟩,
  ⟨(some 57), .bin .eql (.t 56) (.k (.I 0)), (some (54, true))⟩,
  ⟨(some 58), .pick (.t 54) (.t 57) (.k (.B false)), none⟩,
  ⟨(some 59), .mv (.t 58), none⟩,
  ⟨(some 60), .mv (.t 8), (some (59, true))⟩,
  ⟨(some 61), .len (.t 60), (some (59, true))⟩,
  ⟨(some 62), .bin .eql (.t 61) (.k (.I 0)), (some (59, true))⟩,
  ⟨(some 63), .pick (.t 59) (.t 62) (.k (.B false)), none⟩,
  ⟨(some 4), .mv (.t 63), none⟩] false
abbrev c5_11 : AC := .seq c5_10 .ret
abbrev c5_12 : AC := .cond (.t 47) c5_11 .skip
abbrev c5_13 : AC := .seq c5_9 c5_12
abbrev c5_14 : AC := .reg [⟨(some 64), .mv (.t 7), none⟩,
  ⟨(some 65), .bin .eql (.t 64) (.k (.I 0)), none⟩,
  ⟨(some 66), .mv (.t 65), none⟩,
  ⟨(some 67), .mv (.t 10), (some (66, true))⟩,
  ⟨(some 68), .bin .eql (.t 67) (.k (.I 0)), (some (66, true))⟩,
  ⟨(some 69), .pick (.t 66) (.t 68) (.k (.B false)), none⟩,
  ⟨(some 70), .mv (.t 69), none⟩,
  ⟨(some 71), .mv (.t 5), (some (70, true))⟩,
  ⟨(some 72), .mv (.t 1), (some (70, true))⟩,
  ⟨(some 73), .call 16 [(.t 71), (.t 72)], (some (70, true))⟩,
  ⟨(some 74), .pick (.t 70) (.t 73) (.k (.B false)), none⟩,
  ⟨(some 75), .mv (.t 74), none⟩,
  ⟨(some 76), .mv (.t 8), (some (75, true))⟩,
  ⟨(some 77), .mv (.t 1), (some (75, true))⟩,
  ⟨(some 78), .call 16 [(.t 76), (.t 77)], (some (75, true))⟩,
  ⟨(some 79), .pick (.t 75) (.t 78) (.k (.B false)), none⟩,
  ⟨(some 80), .mv (.t 79), none⟩,
  ⟨(some 81), .mv (.t 6), (some (80, true))⟩,
  ⟨(some 82), .len (.t 81), (some (80, true))⟩,
  ⟨(some 83), .bin .eql (.t 82) (.k (.I 0)), (some (80, true))⟩,
  ⟨(some 84), .pick (.t 80) (.t 83) (.k (.B false)), none⟩,
  ⟨(some 85), .mv (.t 84), none⟩,
  ⟨(some 86), .mv (.t 9), (some (85, true))⟩,
  ⟨(some 87), .len (.t 86), (some (85, true))⟩,
  ⟨(some 88), .bin .eql (.t 87) (.k (.I 0)), (some (85, true))⟩,
  ⟨(some 89), .pick (.t 85) (.t 88) (.k (.B false)), none⟩,
  ⟨(some 4), .mv (.t 89), none⟩] false
abbrev c5_15 : AC := .seq c5_14 .ret
abbrev c5_16 : AC := .seq c5_13 c5_15
abbrev c5_17 : AC := .seq c5_8 c5_16
abbrev c5_18 : AC := .seq c5_7 c5_17
abbrev c5_19 : AC := .seq c5_6 c5_18
abbrev c5_20 : AC := .seq c5_1 c5_19
abbrev c5 : AC := c5_20
theorem code5 : fnCode Try.prog 5 = some (c5, [4], 90) := by kernel_rfl
/- coinage/coinagelaw12.OpinionValid -/
abbrev c6_1 : AC := .reg [⟨(some 4), .mv (.k (.B false)), none⟩] false
abbrev c6_2 : AC := .reg [⟨(some 9), .call 11 [], none⟩,
  ⟨(some 10), .not (.t 9), none⟩,
  ⟨(some 11), .mv (.t 10), none⟩,
  ⟨(some 12), .mv (.t 0), (some (11, false))⟩,
  ⟨(some 13), .call 12 [(.t 12)], (some (11, false))⟩,
  ⟨(some 14), .not (.t 13), (some (11, false))⟩,
  ⟨(some 15), .pick (.t 11) (.k (.B true)) (.t 14), none⟩,
  ⟨(some 16), .mv (.t 15), none⟩,
  ⟨(some 17), .mv (.t 1), (some (16, false))⟩,
  ⟨(some 18), .call 21 [(.t 17)], (some (16, false))⟩,
  ⟨(some 19), .not (.t 18), (some (16, false))⟩,
  ⟨(some 20), .pick (.t 16) (.k (.B true)) (.t 19), none⟩] false
abbrev c6_3 : AC := .reg [⟨(some 21), .call 11 [], none⟩,
  ⟨(some 4), .mv (.t 21), none⟩] false
abbrev c6_4 : AC := .seq c6_3 .ret
abbrev c6_5 : AC := .cond (.t 20) c6_4 .skip
abbrev c6_6 : AC := .seq c6_2 c6_5
abbrev c6_7 : AC := .reg [⟨(some 23), .mv (.t 1), none⟩,
  ⟨(some 24), .call 22 [(.t 23)], none⟩,
  ⟨(some 22), .mv (.t 24), none⟩,
  ⟨(some 25), .ext (.t 22) 0, none⟩,
  ⟨(some 26), .ext (.t 22) 1, none⟩,
  ⟨(some 5), .mv (.t 25), none⟩,
  ⟨(some 6), .mv (.t 26), none⟩] false
abbrev c6_8 : AC := .reg [⟨(some 28), .mv (.t 1), none⟩,
  ⟨(some 29), .call 23 [(.t 28)], none⟩,
  ⟨(some 27), .mv (.t 29), none⟩,
  ⟨(some 30), .ext (.t 27) 0, none⟩,
  ⟨(some 31), .ext (.t 27) 1, none⟩,
  ⟨(some 7), .mv (.t 30), none⟩,
  ⟨(some 8), .mv (.t 31), none⟩] false
abbrev c6_9 : AC := .reg [⟨(some 32), .mv (.t 0), none⟩,
  ⟨(some 33), .call 20 [(.t 32)], none⟩,
  ⟨(some 34), .mv (.t 0), none⟩,
  ⟨(some 35), .call 24 [(.t 34)], none⟩,
  ⟨(some 36), .beq false (.t 33) (.t 35), none⟩,
  ⟨(some 37), .mv (.t 36), none⟩,
  ⟨(some 38), .mv (.t 1), (some (37, true))⟩,
  ⟨(some 39), .call 25 [(.t 38)], (some (37, true))⟩,
  ⟨(some 40), .mv (.t 1), (some (37, true))⟩,
  ⟨(some 41), .call 26 [(.t 40)], (some (37, true))⟩,
  ⟨(some 42), .beq false (.t 39) (.t 41), (some (37, true))⟩,
  ⟨(some 43), .pick (.t 37) (.t 42) (.k (.B false)), none⟩,
  ⟨(some 44), .mv (.t 43), none⟩,
  ⟨(some 45), .mv (.t 6), (some (44, true))⟩,
  ⟨(some 46), .mv (.t 8), (some (44, true))⟩,
  ⟨(some 47), .bin .eql (.t 45) (.t 46), (some (44, true))⟩,
  ⟨(some 48), .pick (.t 44) (.t 47) (.k (.B false)), none⟩,
  ⟨(some 49), .mv (.t 48), none⟩,
  ⟨(some 50), .mv (.t 5), (some (49, true))⟩,
  ⟨(some 51), .mv (.t 7), (some (49, true))⟩,
  ⟨(some 52), .call 15 [(.t 50), (.t 51)], (some (49, true))⟩,
  ⟨(some 53), .pick (.t 49) (.t 52) (.k (.B false)), none⟩,
  ⟨(some 4), .mv (.t 53), none⟩] false
abbrev c6_10 : AC := .seq c6_9 .ret
abbrev c6_11 : AC := .seq c6_8 c6_10
abbrev c6_12 : AC := .seq c6_7 c6_11
abbrev c6_13 : AC := .seq c6_6 c6_12
abbrev c6_14 : AC := .seq c6_1 c6_13
abbrev c6 : AC := c6_14
theorem code6 : fnCode Try.prog 6 = some (c6, [4], 54) := by kernel_rfl
/- coinage/coinagelaw12.OpinionApplies -/
abbrev c7_1 : AC := .reg [⟨(some 4), .mv (.k (.B false)), none⟩] false
abbrev c7_2 : AC := .reg [⟨(some 10), .call 11 [], none⟩,
  ⟨(some 11), .not (.t 10), none⟩,
  ⟨(some 12), .mv (.t 11), none⟩,
  ⟨(some 13), .mv (.t 0), (some (12, false))⟩,
  ⟨(some 14), .call 12 [(.t 13)], (some (12, false))⟩,
  ⟨(some 15), .not (.t 14), (some (12, false))⟩,
  ⟨(some 16), .pick (.t 12) (.k (.B true)) (.t 15), none⟩,
  ⟨(some 17), .mv (.t 16), none⟩,
  ⟨(some 18), .mv (.t 1), (some (17, false))⟩,
  ⟨(some 19), .call 21 [(.t 18)], (some (17, false))⟩,
  ⟨(some 20), .not (.t 19), (some (17, false))⟩,
  ⟨(some 21), .pick (.t 17) (.k (.B true)) (.t 20), none⟩] false
abbrev c7_3 : AC := .reg [⟨(some 22), .call 11 [], none⟩,
  ⟨(some 4), .mv (.t 22), none⟩] false
abbrev c7_4 : AC := .seq c7_3 .ret
abbrev c7_5 : AC := .cond (.t 21) c7_4 .skip
abbrev c7_6 : AC := .seq c7_2 c7_5
abbrev c7_7 : AC := .reg [⟨(some 23), .bslice 43 2 [], none⟩,
  ⟨(some 24), .mv (.t 0), none⟩,
  ⟨(some 25), .app 43 2 16 (.t 23) (.t 24), none⟩,
  ⟨(some 5), .mv (.t 25), none⟩] false
abbrev c7_8 : AC := .reg [⟨(some 27), .mv (.t 5), none⟩,
  ⟨(some 28), .mv (.t 1), none⟩,
  ⟨(some 29), .call 27 [(.t 27), (.t 28)], none⟩,
  ⟨(some 26), .mv (.t 29), none⟩,
  ⟨(some 30), .ext (.t 26) 0, none⟩,
  ⟨(some 31), .ext (.t 26) 1, none⟩,
  ⟨(some 6), .mv (.t 30), none⟩,
  ⟨(some 7), .mv (.t 31), none⟩] false
abbrev c7_9 : AC := .reg [⟨(some 33), .mv (.t 0), none⟩,
  ⟨(some 34), .mv (.t 1), none⟩,
  ⟨(some 35), .call 28 [(.t 33), (.t 34)], none⟩,
  ⟨(some 32), .mv (.t 35), none⟩,
  ⟨(some 36), .ext (.t 32) 0, none⟩,
  ⟨(some 37), .ext (.t 32) 1, none⟩,
  ⟨(some 8), .mv (.t 36), none⟩,
  ⟨(some 9), .mv (.t 37), none⟩] false
abbrev c7_10 : AC := .reg [⟨(some 38), .mv (.t 7), none⟩,
  ⟨(some 39), .mv (.t 9), none⟩,
  ⟨(some 40), .bin .eql (.t 38) (.t 39), none⟩,
  ⟨(some 41), .mv (.t 40), none⟩,
  ⟨(some 42), .mv (.t 6), (some (41, true))⟩,
  ⟨(some 43), .mv (.t 8), (some (41, true))⟩,
  ⟨(some 44), .call 16 [(.t 42), (.t 43)], (some (41, true))⟩,
  ⟨(some 45), .pick (.t 41) (.t 44) (.k (.B false)), none⟩,
  ⟨(some 46), .mv (.t 45), none⟩,
  ⟨(some 47), .mv (.t 5), (some (46, true))⟩,
  ⟨(some 48), .mv (.t 0), (some (46, true))⟩,
  ⟨(some 49), .call 16 [(.t 47), (.t 48)], (some (46, true))⟩,
  ⟨(some 50), .pick (.t 46) (.t 49) (.k (.B false)), none⟩,
  ⟨(some 4), .mv (.t 50), none⟩] false
abbrev c7_11 : AC := .seq c7_10 .ret
abbrev c7_12 : AC := .seq c7_9 c7_11
abbrev c7_13 : AC := .seq c7_8 c7_12
abbrev c7_14 : AC := .seq c7_7 c7_13
abbrev c7_15 : AC := .seq c7_6 c7_14
abbrev c7_16 : AC := .seq c7_1 c7_15
abbrev c7 : AC := c7_16
theorem code7 : fnCode Try.prog 7 = some (c7, [4], 51) := by kernel_rfl
/- coinage/coinagelaw12.OpinionLeads -/
abbrev c8_1 : AC := .reg [⟨(some 4), .mv (.k (.B false)), none⟩] false
abbrev c8_2 : AC := .reg [⟨(some 17), .call 11 [], none⟩,
  ⟨(some 18), .not (.t 17), none⟩,
  ⟨(some 19), .mv (.t 18), none⟩,
  ⟨(some 20), .mv (.t 0), (some (19, false))⟩,
  ⟨(some 21), .call 12 [(.t 20)], (some (19, false))⟩,
  ⟨(some 22), .not (.t 21), (some (19, false))⟩,
  ⟨(some 23), .pick (.t 19) (.k (.B true)) (.t 22), none⟩,
  ⟨(some 24), .mv (.t 23), none⟩,
  ⟨(some 25), .mv (.t 1), (some (24, false))⟩,
  ⟨(some 26), .call 12 [(.t 25)], (some (24, false))⟩,
  ⟨(some 27), .not (.t 26), (some (24, false))⟩,
  ⟨(some 28), .pick (.t 24) (.k (.B true)) (.t 27), none⟩] false
abbrev c8_3 : AC := .reg [⟨(some 29), .call 11 [], none⟩,
  ⟨(some 4), .mv (.t 29), none⟩] false
abbrev c8_4 : AC := .seq c8_3 .ret
abbrev c8_5 : AC := .cond (.t 28) c8_4 .skip
abbrev c8_6 : AC := .seq c8_2 c8_5
abbrev c8_7 : AC := .reg [⟨(some 31), .mv (.t 0), none⟩,
  ⟨(some 32), .mv (.t 1), none⟩,
  ⟨(some 33), .call 13 [(.t 31), (.t 32)], none⟩,
  ⟨(some 30), .mv (.t 33), none⟩,
  ⟨(some 34), .ext (.t 30) 0, none⟩,
  ⟨(some 35), .ext (.t 30) 1, none⟩,
  ⟨(some 5), .mv (.t 34), none⟩,
  ⟨(some 6), .mv (.t 35), none⟩] false
abbrev c8_8 : AC := .reg [⟨(some 37), .mv (.t 1), none⟩,
  ⟨(some 38), .mv (.t 0), none⟩,
  ⟨(some 39), .call 13 [(.t 37), (.t 38)], none⟩,
  ⟨(some 36), .mv (.t 39), none⟩,
  ⟨(some 40), .ext (.t 36) 0, none⟩,
  ⟨(some 41), .ext (.t 36) 1, none⟩,
  ⟨(some 7), .mv (.t 40), none⟩,
  ⟨(some 8), .mv (.t 41), none⟩] false
abbrev c8_9 : AC := .reg [⟨(some 42), .mv (.t 6), none⟩,
  ⟨(some 43), .mv (.t 8), none⟩,
  ⟨(some 44), .bin .neq (.t 42) (.t 43), none⟩] false
abbrev c8_10 : AC := .reg [⟨(some 4), .mv (.k (.B false)), none⟩] false
abbrev c8_11 : AC := .seq c8_10 .ret
abbrev c8_12 : AC := .cond (.t 44) c8_11 .skip
abbrev c8_13 : AC := .seq c8_9 c8_12
abbrev c8_14 : AC := .reg [⟨(some 45), .mv (.t 6), none⟩,
  ⟨(some 46), .bin .neq (.t 45) (.k (.I 0)), none⟩] false
abbrev c8_15 : AC := .reg [⟨(some 47), .mv (.t 5), none⟩,
  ⟨(some 48), .len (.t 47), none⟩,
  ⟨(some 49), .bin .eql (.t 48) (.k (.I 0)), none⟩,
  ⟨(some 50), .mv (.t 49), none⟩,
  ⟨(some 51), .mv (.t 7), (some (50, true))⟩,
  ⟨(some 52), .len (.t 51), (some (50, true))⟩,
  ⟨(some 53), .bin .eql (.t 52) (.k (.I 0)), (some (50, true))⟩,
  ⟨(some 54), .pick (.t 50) (.t 53) (.k (.B false)), none⟩,
  ⟨(some 4), .mv (.t 54), none⟩] false
abbrev c8_16 : AC := .seq c8_15 .ret
abbrev c8_17 : AC := .cond (.t 46) c8_16 .skip
abbrev c8_18 : AC := .seq c8_14 c8_17
abbrev c8_19 : AC := .reg [⟨(some 56), .mv (.t 0), none⟩,
  ⟨(some 57), .mv (.t 5), none⟩,
  ⟨(some 58), .call 27 [(.t 56), (.t 57)], none⟩,
  ⟨(some 55), .mv (.t 58), none⟩,
  ⟨(some 59), .ext (.t 55) 0, none⟩,
  ⟨(some 60), .ext (.t 55) 1, none⟩,
  ⟨(some 9), .mv (.t 59), none⟩,
  ⟨(some 10), .mv (.t 60), none⟩] false
abbrev c8_20 : AC := .reg [⟨(some 62), .mv (.t 5), none⟩,
  ⟨(some 63), .call 22 [(.t 62)], none⟩,
  ⟨(some 61), .mv (.t 63), none⟩,
  ⟨(some 64), .ext (.t 61) 0, none⟩,
  ⟨(some 65), .ext (.t 61) 1, none⟩,
  ⟨(some 11), .mv (.t 64), none⟩,
  ⟨(some 12), .mv (.t 65), none⟩] false
abbrev c8_21 : AC := .reg [⟨(some 67), .mv (.t 1), none⟩,
  ⟨(some 68), .mv (.t 11), none⟩,
  ⟨(some 69), .call 27 [(.t 67), (.t 68)], none⟩,
  ⟨(some 66), .mv (.t 69), none⟩,
  ⟨(some 70), .ext (.t 66) 0, none⟩,
  ⟨(some 71), .ext (.t 66) 1, none⟩,
  ⟨(some 13), .mv (.t 70), none⟩,
  ⟨(some 14), .mv (.t 71), none⟩] false
abbrev c8_22 : AC := .reg [⟨(some 73), .mv (.t 0), none⟩,
  ⟨(some 74), .mv (.t 0), none⟩,
  ⟨(some 75), .call 13 [(.t 73), (.t 74)], none⟩,
  ⟨(some 72), .mv (.t 75), none⟩,
  ⟨(some 76), .ext (.t 72) 0, none⟩,
  ⟨(some 77), .ext (.t 72) 1, none⟩,
  ⟨(some 15), .mv (.t 76), none⟩,
  ⟨(some 16), .mv (.t 77), none⟩] false
abbrev c8_23 : AC := .reg [⟨(some 78), .mv (.t 10), none⟩,
  ⟨(some 79), .bin .eql (.t 78) (.k (.I 0)), none⟩,
  ⟨(some 80), .mv (.t 79), none⟩,
  ⟨(some 81), .mv (.t 9), (some (80, true))⟩,
  ⟨(some 82), .mv (.t 1), (some (80, true))⟩,
  ⟨(some 83), .call 16 [(.t 81), (.t 82)], (some (80, true))⟩,
  ⟨(some 84), .pick (.t 80) (.t 83) (.k (.B false)), none⟩,
  ⟨(some 85), .mv (.t 84), none⟩,
  ⟨(some 86), .mv (.t 12), (some (85, true))⟩,
  ⟨(some 87), .bin .eql (.t 86) (.k (.I 0)), (some (85, true))⟩,
  ⟨(some 88), .pick (.t 85) (.t 87) (.k (.B false)), none⟩,
  ⟨(some 89), .mv (.t 88), none⟩,
  ⟨(some 90), .mv (.t 11), (some (89, true))⟩,
  ⟨(some 91), .mv (.t 7), (some (89, true))⟩,
  ⟨(some 92), .call 15 [(.t 90), (.t 91)], (some (89, true))⟩,
  ⟨(some 93), .pick (.t 89) (.t 92) (.k (.B false)), none⟩,
  ⟨(some 94), .mv (.t 93), none⟩,
  ⟨(some 95), .mv (.t 14), (some (94, true))⟩,
  ⟨(some 96), .bin .eql (.t 95) (.k (.I 0)), (some (94, true))⟩,
  ⟨(some 97), .pick (.t 94) (.t 96) (.k (.B false)), none⟩,
  ⟨(some 98), .mv (.t 97), none⟩,
  ⟨(some 99), .mv (.t 13), (some (98, true))⟩,
  ⟨(some 100), .mv (.t 0), (some (98, true))⟩,
  ⟨(some 101), .call 16 [(.t 99), (.t 100)], (some (98, true))⟩,
  ⟨(some 102), .pick (.t 98) (.t 101) (.k (.B false)), none⟩,
  ⟨(some 103), .mv (.t 102), none⟩,
  ⟨(some 104), .mv (.t 16), (some (103, true))⟩,
  ⟨(some 105), .bin .eql (.t 104) (.k (.I 0)), (some (103, true))⟩,
  ⟨(some 106), .pick (.t 103) (.t 105) (.k (.B false)), none⟩,
  ⟨(some 107), .mv (.t 106), none⟩,
  ⟨(some 108), .mv (.t 15), (some (107, true))⟩,
  ⟨(some 109), .len (.t 108), (some (107, true))⟩,
  ⟨(some 110), .bin .eql (.t 109) (.k (.I 0)), (some (107, true))⟩,
  ⟨(some 111), .pick (.t 107) (.t 110) (.k (.B false)), none⟩,
  ⟨(some 4), .mv (.t 111), none⟩] false
abbrev c8_24 : AC := .seq c8_23 .ret
abbrev c8_25 : AC := .seq c8_22 c8_24
abbrev c8_26 : AC := .seq c8_21 c8_25
abbrev c8_27 : AC := .seq c8_20 c8_26
abbrev c8_28 : AC := .seq c8_19 c8_27
abbrev c8_29 : AC := .seq c8_18 c8_28
abbrev c8_30 : AC := .seq c8_13 c8_29
abbrev c8_31 : AC := .seq c8_8 c8_30
abbrev c8_32 : AC := .seq c8_7 c8_31
abbrev c8_33 : AC := .seq c8_6 c8_32
abbrev c8_34 : AC := .seq c8_1 c8_33
abbrev c8 : AC := c8_34
theorem code8 : fnCode Try.prog 8 = some (c8, [4], 112) := by kernel_rfl
/- coinage/coinagelaw12.OpinionComposes -/
abbrev c9_1 : AC := .reg [⟨(some 4), .mv (.k (.B false)), none⟩] false
abbrev c9_2 : AC := .reg [⟨(some 9), .call 11 [], none⟩,
  ⟨(some 10), .not (.t 9), none⟩,
  ⟨(some 11), .mv (.t 10), none⟩,
  ⟨(some 12), .mv (.t 0), (some (11, false))⟩,
  ⟨(some 13), .call 21 [(.t 12)], (some (11, false))⟩,
  ⟨(some 14), .not (.t 13), (some (11, false))⟩,
  ⟨(some 15), .pick (.t 11) (.k (.B true)) (.t 14), none⟩,
  ⟨(some 16), .mv (.t 15), none⟩,
  ⟨(some 17), .mv (.t 1), (some (16, false))⟩,
  ⟨(some 18), .call 21 [(.t 17)], (some (16, false))⟩,
  ⟨(some 19), .not (.t 18), (some (16, false))⟩,
  ⟨(some 20), .pick (.t 16) (.k (.B true)) (.t 19), none⟩] false
abbrev c9_3 : AC := .reg [⟨(some 21), .call 11 [], none⟩,
  ⟨(some 4), .mv (.t 21), none⟩] false
abbrev c9_4 : AC := .seq c9_3 .ret
abbrev c9_5 : AC := .cond (.t 20) c9_4 .skip
abbrev c9_6 : AC := .seq c9_2 c9_5
abbrev c9_7 : AC := .reg [⟨(some 23), .mv (.t 0), none⟩,
  ⟨(some 24), .mv (.t 1), none⟩,
  ⟨(some 25), .call 29 [(.t 23), (.t 24)], none⟩,
  ⟨(some 22), .mv (.t 25), none⟩,
  ⟨(some 26), .ext (.t 22) 0, none⟩,
  ⟨(some 27), .ext (.t 22) 1, none⟩,
  ⟨(some 5), .mv (.t 26), none⟩,
  ⟨(some 6), .mv (.t 27), none⟩] false
abbrev c9_8 : AC := .reg [⟨(some 29), .mv (.t 0), none⟩,
  ⟨(some 30), .mv (.t 1), none⟩,
  ⟨(some 31), .call 30 [(.t 29), (.t 30)], none⟩,
  ⟨(some 28), .mv (.t 31), none⟩,
  ⟨(some 32), .ext (.t 28) 0, none⟩,
  ⟨(some 33), .ext (.t 28) 1, none⟩,
  ⟨(some 7), .mv (.t 32), none⟩,
  ⟨(some 8), .mv (.t 33), none⟩] false
abbrev c9_9 : AC := .reg [⟨(some 34), .mv (.t 6), none⟩,
  ⟨(some 35), .mv (.t 8), none⟩,
  ⟨(some 36), .bin .eql (.t 34) (.t 35), none⟩,
  ⟨(some 37), .mv (.t 36), none⟩,
  ⟨(some 38), .mv (.t 5), (some (37, true))⟩,
  ⟨(some 39), .mv (.t 7), (some (37, true))⟩,
  ⟨(some 40), .call 15 [(.t 38), (.t 39)], (some (37, true))⟩,
  ⟨(some 41), .pick (.t 37) (.t 40) (.k (.B false)), none⟩,
  ⟨(some 42), .mv (.t 41), none⟩,
  ⟨(some 43), .mv (.t 6), (some (42, true))⟩,
  ⟨(some 44), .bin .neq (.t 43) (.k (.I 0)), (some (42, true))⟩,
  ⟨(some 45), .mv (.t 44), (some (42, true))⟩,
  ⟨(some 46), .mv (.t 5), (some (45, false))⟩,
  ⟨(some 47), .call 25 [(.t 46)], (some (45, false))⟩,
  ⟨(some 48), .pick (.t 45) (.k (.B true)) (.t 47), (some (42, true))⟩,
  ⟨(some 49), .pick (.t 42) (.t 48) (.k (.B false)), none⟩,
  ⟨(some 4), .mv (.t 49), none⟩] false
abbrev c9_10 : AC := .seq c9_9 .ret
abbrev c9_11 : AC := .seq c9_8 c9_10
abbrev c9_12 : AC := .seq c9_7 c9_11
abbrev c9_13 : AC := .seq c9_6 c9_12
abbrev c9_14 : AC := .seq c9_1 c9_13
abbrev c9 : AC := c9_14
theorem code9 : fnCode Try.prog 9 = some (c9, [4], 50) := by kernel_rfl
/- coinage/coinagelaw12.OpinionChains -/
abbrev c10_1 : AC := .reg [⟨(some 6), .mv (.k (.B false)), none⟩] false
abbrev c10_2 : AC := .reg [⟨(some 17), .call 11 [], none⟩,
  ⟨(some 18), .not (.t 17), none⟩,
  ⟨(some 19), .mv (.t 18), none⟩,
  ⟨(some 20), .mv (.t 0), (some (19, false))⟩,
  ⟨(some 21), .call 12 [(.t 20)], (some (19, false))⟩,
  ⟨(some 22), .not (.t 21), (some (19, false))⟩,
  ⟨(some 23), .pick (.t 19) (.k (.B true)) (.t 22), none⟩,
  ⟨(some 24), .mv (.t 23), none⟩,
  ⟨(some 25), .mv (.t 1), (some (24, false))⟩,
  ⟨(some 26), .call 12 [(.t 25)], (some (24, false))⟩,
  ⟨(some 27), .not (.t 26), (some (24, false))⟩,
  ⟨(some 28), .pick (.t 24) (.k (.B true)) (.t 27), none⟩,
  ⟨(some 29), .mv (.t 28), none⟩,
  ⟨(some 30), .mv (.t 2), (some (29, false))⟩,
  ⟨(some 31), .call 12 [(.t 30)], (some (29, false))⟩,
  ⟨(some 32), .not (.t 31), (some (29, false))⟩,
  ⟨(some 33), .pick (.t 29) (.k (.B true)) (.t 32), none⟩] false
abbrev c10_3 : AC := .reg [⟨(some 34), .call 11 [], none⟩,
  ⟨(some 6), .mv (.t 34), none⟩] false
abbrev c10_4 : AC := .seq c10_3 .ret
abbrev c10_5 : AC := .cond (.t 33) c10_4 .skip
abbrev c10_6 : AC := .seq c10_2 c10_5
abbrev c10_7 : AC := .reg [⟨(some 36), .mv (.t 0), none⟩,
  ⟨(some 37), .mv (.t 1), none⟩,
  ⟨(some 38), .call 13 [(.t 36), (.t 37)], none⟩,
  ⟨(some 35), .mv (.t 38), none⟩,
  ⟨(some 39), .ext (.t 35) 0, none⟩,
  ⟨(some 40), .ext (.t 35) 1, none⟩,
  ⟨(some 7), .mv (.t 39), none⟩,
  ⟨(some 8), .mv (.t 40), none⟩] false
abbrev c10_8 : AC := .reg [⟨(some 42), .mv (.t 1), none⟩,
  ⟨(some 43), .mv (.t 2), none⟩,
  ⟨(some 44), .call 13 [(.t 42), (.t 43)], none⟩,
  ⟨(some 41), .mv (.t 44), none⟩,
  ⟨(some 45), .ext (.t 41) 0, none⟩,
  ⟨(some 46), .ext (.t 41) 1, none⟩,
  ⟨(some 9), .mv (.t 45), none⟩,
  ⟨(some 10), .mv (.t 46), none⟩] false
abbrev c10_9 : AC := .reg [⟨(some 47), .mv (.t 8), none⟩,
  ⟨(some 48), .bin .neq (.t 47) (.k (.I 0)), none⟩,
  ⟨(some 49), .mv (.t 48), none⟩,
  ⟨(some 50), .mv (.t 10), (some (49, false))⟩,
  ⟨(some 51), .bin .neq (.t 50) (.k (.I 0)), (some (49, false))⟩,
  ⟨(some 52), .pick (.t 49) (.k (.B true)) (.t 51), none⟩] false
abbrev c10_10 : AC := .reg [⟨(some 53), .mv (.t 8), none⟩,
  ⟨(some 54), .bin .neq (.t 53) (.k (.I 0)), none⟩,
  ⟨(some 55), .mv (.t 54), none⟩,
  ⟨(some 56), .mv (.t 7), (some (55, true))⟩,
  ⟨(some 57), .len (.t 56), (some (55, true))⟩,
  ⟨(some 58), .bin .eql (.t 57) (.k (.I 0)), (some (55, true))⟩,
  ⟨(some 59), .pick (.t 55) (.t 58) (.k (.B false)), none⟩,
  ⟨(some 60), .mv (.t 59), none⟩,
  ⟨(some 61), .mv (.t 10), (some (60, false))⟩,
  ⟨(some 62), .bin .neq (.t 61) (.k (.I 0)), (some (60, false))⟩,
  ⟨(some 63), .mv (.t 62), (some (60, false))⟩,
  ⟨(some 64), .mv (.t 9), (some (63, true))⟩,
  ⟨(some 65), .len (.t 64), (some (63, true))⟩,
  ⟨(some 66), .bin .eql (.t 65) (.k (.I 0)), (some (63, true))⟩,
  ⟨(some 67), .pick (.t 63) (.t 66) (.k (.B false)), (some (60, false))⟩,
  ⟨(some 68), .pick (.t 60) (.k (.B true)) (.t 67), none⟩,
  ⟨(some 6), .mv (.t 68), none⟩] false
abbrev c10_11 : AC := .seq c10_10 .ret
abbrev c10_12 : AC := .cond (.t 52) c10_11 .skip
abbrev c10_13 : AC := .seq c10_9 c10_12
abbrev c10_14 : AC := .reg [⟨(some 70), .mv (.t 7), none⟩,
  ⟨(some 71), .mv (.t 9), none⟩,
  ⟨(some 72), .call 29 [(.t 70), (.t 71)], none⟩,
  ⟨(some 69), .mv (.t 72), none⟩,
  ⟨(some 73), .ext (.t 69) 0, none⟩,
  ⟨(some 74), .ext (.t 69) 1, none⟩,
  ⟨(some 11), .mv (.t 73), none⟩,
  ⟨(some 12), .mv (.t 74), none⟩] false
abbrev c10_15 : AC := .reg [⟨(some 76), .mv (.t 0), none⟩,
  ⟨(some 77), .mv (.t 2), none⟩,
  ⟨(some 78), .call 13 [(.t 76), (.t 77)], none⟩,
  ⟨(some 75), .mv (.t 78), none⟩,
  ⟨(some 79), .ext (.t 75) 0, none⟩,
  ⟨(some 80), .ext (.t 75) 1, none⟩,
  ⟨(some 13), .mv (.t 79), none⟩,
  ⟨(some 14), .mv (.t 80), none⟩] false
abbrev c10_16 : AC := .reg [⟨(some 81), .mv (.t 14), none⟩,
  ⟨(some 82), .bin .neq (.t 81) (.k (.I 0)), none⟩] false
abbrev c10_17 : AC := .reg [⟨(some 83), .mv (.t 12), none⟩,
  ⟨(some 84), .mv (.t 14), none⟩,
  ⟨(some 85), .bin .eql (.t 83) (.t 84), none⟩,
  ⟨(some 6), .mv (.t 85), none⟩] false
abbrev c10_18 : AC := .seq c10_17 .ret
abbrev c10_19 : AC := .cond (.t 82) c10_18 .skip
abbrev c10_20 : AC := .seq c10_16 c10_19
abbrev c10_21 : AC := .reg [⟨(some 87), .mv (.t 0), none⟩,
  ⟨(some 88), .mv (.t 11), none⟩,
  ⟨(some 89), .call 27 [(.t 87), (.t 88)], none⟩,
  ⟨(some 86), .mv (.t 89), none⟩,
  ⟨(some 90), .ext (.t 86) 0, none⟩,
  ⟨(some 91), .ext (.t 86) 1, none⟩,
  ⟨(some 15), .mv (.t 90), none⟩,
  ⟨(some 16), .mv (.t 91), none⟩] false
abbrev c10_22 : AC := .reg [⟨(some 92), .mv (.t 12), none⟩,
  ⟨(some 93), .bin .eql (.t 92) (.k (.I 0)), none⟩,
  ⟨(some 94), .mv (.t 93), none⟩,
  ⟨(some 95), .mv (.t 11), (some (94, true))⟩,
  ⟨(some 96), .mv (.t 13), (some (94, true))⟩,
  ⟨(some 97), .call 15 [(.t 95), (.t 96)], (some (94, true))⟩,
  ⟨(some 98), .pick (.t 94) (.t 97) (.k (.B false)), none⟩,
  ⟨(some 99), .mv (.t 98), none⟩,
  ⟨(some 100), .mv (.t 16), (some (99, true))⟩,
  ⟨(some 101), .bin .eql (.t 100) (.k (.I 0)), (some (99, true))⟩,
  ⟨(some 102), .pick (.t 99) (.t 101) (.k (.B false)), none⟩,
  ⟨(some 103), .mv (.t 102), none⟩,
  ⟨(some 104), .mv (.t 15), (some (103, true))⟩,
  ⟨(some 105), .mv (.t 2), (some (103, true))⟩,
  ⟨(some 106), .call 16 [(.t 104), (.t 105)], (some (103, true))⟩,
  ⟨(some 107), .pick (.t 103) (.t 106) (.k (.B false)), none⟩,
  ⟨(some 6), .mv (.t 107), none⟩] false
abbrev c10_23 : AC := .seq c10_22 .ret
abbrev c10_24 : AC := .seq c10_21 c10_23
abbrev c10_25 : AC := .seq c10_20 c10_24
abbrev c10_26 : AC := .seq c10_15 c10_25
abbrev c10_27 : AC := .seq c10_14 c10_26
abbrev c10_28 : AC := .seq c10_13 c10_27
abbrev c10_29 : AC := .seq c10_8 c10_28
abbrev c10_30 : AC := .seq c10_7 c10_29
abbrev c10_31 : AC := .seq c10_6 c10_30
abbrev c10_32 : AC := .seq c10_1 c10_31
abbrev c10 : AC := c10_32
theorem code10 : fnCode Try.prog 10 = some (c10, [6], 108) := by kernel_rfl
/- coinage/coinagelaw12.awake -/
abbrev c11_1 : AC := .reg [⟨(some 0), .mv (.k (.B false)), none⟩] false
abbrev c11_2 : AC := .reg [⟨(some 7), .build [(.I 0), (.I 0)] [(0, 1, (.k (.I 1))), (1, 1, (.k (.I 10)))], none⟩,
  ⟨(some 8), .build [(.I 0), (.I 0)] [(0, 1, (.k (.I 2))), (1, 1, (.k (.I 20)))], none⟩,
  ⟨(some 9), .bslice 43 2 [(.t 7), (.t 8)], none⟩,
  ⟨(some 1), .mv (.t 9), none⟩] false
abbrev c11_3 : AC := .reg [⟨(some 11), .mv (.t 1), none⟩,
  ⟨(some 12), .build [(.I 0), (.I 0)] [(0, 1, (.k (.I 2))), (1, 1, (.k (.I 21)))], none⟩,
  ⟨(some 13), .build [(.I 0), (.I 0)] [(0, 1, (.k (.I 3))), (1, 1, (.k (.I 30)))], none⟩,
  ⟨(some 14), .bslice 43 2 [(.t 12), (.t 13)], none⟩,
  ⟨(some 15), .call 13 [(.t 11), (.t 14)], none⟩,
  ⟨(some 10), .mv (.t 15), none⟩,
  ⟨(some 16), .ext (.t 10) 0, none⟩,
  ⟨(some 17), .ext (.t 10) 1, none⟩,
  ⟨(some 2), .mv (.t 16), none⟩,
  ⟨(some 3), .mv (.t 17), none⟩] false
abbrev c11_4 : AC := .reg [⟨(some 19), .mv (.t 1), none⟩,
  ⟨(some 20), .build [(.I 0), (.I 0)] [(0, 1, (.k (.I 1))), (1, 1, (.k (.I 11)))], none⟩,
  ⟨(some 21), .build [(.I 0), (.I 0)] [(0, 1, (.k (.I 2))), (1, 1, (.k (.I 20)))], none⟩,
  ⟨(some 22), .bslice 43 2 [(.t 20), (.t 21)], none⟩,
  ⟨(some 23), .build [(.I 0), (.I 0)] [(0, 1, (.k (.I 1))), (1, 1, (.k (.I 12)))], none⟩,
  ⟨(some 24), .build [(.I 0), (.I 0)] [(0, 1, (.k (.I 2))), (1, 1, (.k (.I 22)))], none⟩,
  ⟨(some 25), .bslice 43 2 [(.t 23), (.t 24)], none⟩,
  ⟨(some 26), .call 17 [(.t 19), (.t 22), (.t 25)], none⟩,
  ⟨(some 18), .mv (.t 26), none⟩,
  ⟨(some 27), .ext (.t 18) 0, none⟩,
  ⟨(some 28), .ext (.t 18) 1, none⟩,
  ⟨(some 29), .ext (.t 18) 2, none⟩,
  ⟨(some 4), .mv (.t 27), none⟩,
  ⟨(some 5), .mv (.t 28), none⟩,
  ⟨(some 6), .mv (.t 29), none⟩] false
abbrev c11_5 : AC := .reg [⟨(some 30), .mv (.t 3), none⟩,
  ⟨(some 31), .bin .eql (.t 30) (.k (.I 0)), none⟩,
  ⟨(some 32), .mv (.t 31), none⟩,
  ⟨(some 33), .mv (.t 2), (some (32, true))⟩,
  ⟨(some 34), .len (.t 33), (some (32, true))⟩,
  ⟨(some 35), .bin .eql (.t 34) (.k (.I 3)), (some (32, true))⟩,
  ⟨(some 36), .pick (.t 32) (.t 35) (.k (.B false)), none⟩,
  ⟨(some 37), .mv (.t 36), none⟩,
  ⟨(some 38), .mv (.t 6), (some (37, true))⟩,
  ⟨(some 39), .bin .eql (.t 38) (.k (.I 0)), (some (37, true))⟩,
  ⟨(some 40), .pick (.t 37) (.t 39) (.k (.B false)), none⟩,
  ⟨(some 41), .mv (.t 40), none⟩,
  ⟨(some 42), .mv (.t 4), (some (41, true))⟩,
  ⟨(some 43), .build [(.I 0), (.I 0)] [(0, 1, (.k (.I 1))), (1, 1, (.k (.I 10)))], (some (41, true))⟩,
  ⟨(some 44), .build [(.I 0), (.I 0)] [(0, 1, (.k (.I 2))), (1, 1, (.k (.I 22)))], (some (41, true))⟩,
  ⟨(some 45), .bslice 43 2 [(.t 43), (.t 44)], (some (41, true))⟩,
  ⟨(some 46), .call 16 [(.t 42), (.t 45)], (some (41, true))⟩,
  ⟨(some 47), .pick (.t 41) (.t 46) (.k (.B false)), none⟩,
  ⟨(some 48), .mv (.t 47), none⟩,
  ⟨(some 49), .mv (.t 5), (some (48, true))⟩,
  ⟨(some 50), .bslice 3 1 [(.k (.I 1))], (some (48, true))⟩,
  ⟨(some 51), .call 19 [(.t 49), (.t 50)], (some (48, true))⟩,
  ⟨(some 52), .pick (.t 48) (.t 51) (.k (.B false)), none⟩,
  ⟨(some 0), .mv (.t 52), none⟩] false
abbrev c11_6 : AC := .seq c11_5 .ret
abbrev c11_7 : AC := .seq c11_4 c11_6
abbrev c11_8 : AC := .seq c11_3 c11_7
abbrev c11_9 : AC := .seq c11_2 c11_8
abbrev c11_10 : AC := .seq c11_1 c11_9
abbrev c11 : AC := c11_10
theorem code11 : fnCode Try.prog 11 = some (c11, [0], 53) := by kernel_rfl
/- coinage/coinagelaw12.few -/
abbrev c12_1 : AC := .reg [⟨(some 2), .mv (.k (.B false)), none⟩] false
abbrev c12_2 : AC := .reg [⟨(some 3), .mv (.t 0), none⟩,
  ⟨(some 4), .len (.t 3), none⟩,
  ⟨(some 5), .bin .leq (.t 4) (.k (.I 100)), none⟩,
  ⟨(some 2), .mv (.t 5), none⟩] false
abbrev c12_3 : AC := .seq c12_2 .ret
abbrev c12_4 : AC := .seq c12_1 c12_3
abbrev c12 : AC := c12_4
theorem code12 : fnCode Try.prog 12 = some (c12, [2], 6) := by kernel_rfl
/- coinage/opinion.Diff -/
abbrev c13_1 : AC := .reg [⟨(some 4), .mv (.k (.c .nil)), none⟩,
  ⟨(some 5), .mv (.k (.I 0)), none⟩] false
abbrev c13_2 : AC := .reg [⟨(some 11), .mv (.t 0), none⟩,
  ⟨(some 12), .call 20 [(.t 11)], none⟩,
  ⟨(some 13), .not (.t 12), none⟩,
  ⟨(some 14), .mv (.t 13), none⟩,
  ⟨(some 15), .mv (.t 1), (some (14, false))⟩,
  ⟨(some 16), .call 20 [(.t 15)], (some (14, false))⟩,
  ⟨(some 17), .not (.t 16), (some (14, false))⟩,
  ⟨(some 18), .pick (.t 14) (.k (.B true)) (.t 17), none⟩] false
abbrev c13_3 : AC := .reg [⟨(some 4), .mv (.k (.c .nil)), none⟩,
  ⟨(some 5), .mv (.k (.I 1)), none⟩] false
abbrev c13_4 : AC := .seq c13_3 .ret
abbrev c13_5 : AC := .cond (.t 18) c13_4 .skip
abbrev c13_6 : AC := .seq c13_2 c13_5
abbrev c13_7 : AC := .reg [⟨(some 19), .mv (.t 0), none⟩,
  ⟨(some 20), .call 31 [(.t 19)], none⟩,
  ⟨(some 21), .mv (.t 1), none⟩,
  ⟨(some 22), .call 31 [(.t 21)], none⟩,
  ⟨(some 6), .mv (.t 20), none⟩,
  ⟨(some 7), .mv (.t 22), none⟩] false
abbrev c13_8 : AC := .reg [⟨(some 8), .mv (.k (.c .nil)), none⟩] false
abbrev c13_9 : AC := .reg [⟨(some 23), .mv (.t 6), none⟩,
  ⟨(some 24), .mv (.t 7), none⟩,
  ⟨(some 25), .bslice 45 1 [(.t 23), (.t 24)], none⟩,
  ⟨(some 26), .call 32 [(.t 25)], none⟩,
  ⟨(some 27), .len (.t 26), none⟩,
  ⟨(some 28), .mv (.k (.I 0)), none⟩] false
abbrev c13_10 : AC := .reg [⟨(some 29), .bin .lss (.t 28) (.t 27), none⟩] false
abbrev c13_11 : AC := .cond (.t 29) .skip (.exit 0)
abbrev c13_12 : AC := .reg [⟨(some 30), .iad 1 (.t 26) (.t 28), none⟩,
  ⟨(some 31), .ld none (.t 30), none⟩,
  ⟨(some 10), .mv (.t 31), none⟩] false
abbrev c13_13 : AC := .reg [⟨(some 32), .mv (.t 6), none⟩,
  ⟨(some 33), .mv (.t 10), none⟩,
  ⟨(some 34), .look (.one .i64) (.inr [(.sc (.int .i64 0)), (.sc (.bool false))]) false (.t 32) (.t 33), none⟩,
  ⟨(some 35), .mv (.t 7), none⟩,
  ⟨(some 36), .mv (.t 10), none⟩,
  ⟨(some 37), .look (.one .i64) (.inr [(.sc (.int .i64 0)), (.sc (.bool false))]) false (.t 35) (.t 36), none⟩,
  ⟨(some 38), .eqs true [false, true] (.t 34) (.t 37), none⟩] false
abbrev c13_14 : AC := .reg [⟨(some 39), .mv (.t 8), none⟩,
  ⟨(some 40), .mv (.t 10), none⟩,
  ⟨(some 41), .mv (.t 6), none⟩,
  ⟨(some 42), .mv (.t 10), none⟩,
  ⟨(some 43), .look (.one .i64) (.inr [(.sc (.int .i64 0)), (.sc (.bool false))]) false (.t 41) (.t 42), none⟩,
  ⟨(some 44), .mv (.t 7), none⟩,
  ⟨(some 45), .mv (.t 10), none⟩,
  ⟨(some 46), .look (.one .i64) (.inr [(.sc (.int .i64 0)), (.sc (.bool false))]) false (.t 44) (.t 45), none⟩,
  ⟨(some 47), .call 33 [(.t 40), (.t 43), (.t 46)], none⟩,
  ⟨(some 48), .bslice 51 5 [(.t 47)], none⟩,
  ⟨(some 49), .app 51 5 32 (.t 39) (.t 48), none⟩,
  ⟨(some 8), .mv (.t 49), none⟩] false
abbrev c13_15 : AC := .cond (.t 38) c13_14 .skip
abbrev c13_16 : AC := .seq c13_13 c13_15
abbrev c13_17 : AC := .seq c13_12 c13_16
abbrev c13_18 : AC := .block 1 c13_17
abbrev c13_19 : AC := .reg [⟨(some 50), .bin .add (.t 28) (.k (.I 1)), none⟩,
  ⟨(some 28), .mv (.t 50), none⟩] false
abbrev c13_20 : AC := .seq c13_18 c13_19
abbrev c13_21 : AC := .seq c13_11 c13_20
abbrev c13_22 : AC := .seq c13_10 c13_21
abbrev c13_23 : AC := .loop c13_22
abbrev c13_24 : AC := .block 0 c13_23
abbrev c13_25 : AC := .seq c13_9 c13_24
abbrev c13_26 : AC := .reg [⟨(some 51), .mv (.t 8), none⟩,
  ⟨(some 52), .len (.t 51), none⟩,
  ⟨(some 53), .bin .gtr (.t 52) (.k (.I 64)), none⟩] false
abbrev c13_27 : AC := .reg [⟨(some 4), .mv (.k (.c .nil)), none⟩,
  ⟨(some 5), .mv (.k (.I 6)), none⟩] false
abbrev c13_28 : AC := .seq c13_27 .ret
abbrev c13_29 : AC := .cond (.t 53) c13_28 .skip
abbrev c13_30 : AC := .seq c13_26 c13_29
abbrev c13_31 : AC := .reg [⟨(some 54), .mv (.t 8), none⟩,
  ⟨(some 4), .mv (.t 54), none⟩,
  ⟨(some 5), .mv (.k (.I 0)), none⟩] false
abbrev c13_32 : AC := .seq c13_31 .ret
abbrev c13_33 : AC := .seq c13_30 c13_32
abbrev c13_34 : AC := .seq c13_25 c13_33
abbrev c13_35 : AC := .seq c13_8 c13_34
abbrev c13_36 : AC := .seq c13_7 c13_35
abbrev c13_37 : AC := .seq c13_6 c13_36
abbrev c13_38 : AC := .seq c13_1 c13_37
abbrev c13 : AC := c13_38
theorem code13 : fnCode Try.prog 13 = some (c13, [4, 5], 55) := by kernel_rfl
/- coinage/coinageref12.Diff -/
abbrev c14_1 : AC := .reg [⟨(some 4), .mv (.k (.c .nil)), none⟩,
  ⟨(some 5), .mv (.k (.I 0)), none⟩] false
abbrev c14_2 : AC := .reg [⟨(some 9), .mv (.t 0), none⟩,
  ⟨(some 10), .call 24 [(.t 9)], none⟩,
  ⟨(some 11), .not (.t 10), none⟩,
  ⟨(some 12), .mv (.t 11), none⟩,
  ⟨(some 13), .mv (.t 1), (some (12, false))⟩,
  ⟨(some 14), .call 24 [(.t 13)], (some (12, false))⟩,
  ⟨(some 15), .not (.t 14), (some (12, false))⟩,
  ⟨(some 16), .pick (.t 12) (.k (.B true)) (.t 15), none⟩] false
abbrev c14_3 : AC := .reg [⟨(some 4), .mv (.k (.c .nil)), none⟩,
  ⟨(some 5), .mv (.k (.I 1)), none⟩] false
abbrev c14_4 : AC := .seq c14_3 .ret
abbrev c14_5 : AC := .cond (.t 16) c14_4 .skip
abbrev c14_6 : AC := .seq c14_2 c14_5
abbrev c14_7 : AC := .reg [⟨(some 6), .mv (.k (.c .nil)), none⟩] false
abbrev c14_8 : AC := .reg [⟨(some 17), .mv (.t 0), none⟩,
  ⟨(some 18), .mv (.t 1), none⟩,
  ⟨(some 19), .bslice 22 1 [(.t 17), (.t 18)], none⟩,
  ⟨(some 20), .call 34 [(.t 19)], none⟩,
  ⟨(some 7), .mv (.t 20), none⟩] false
abbrev c14_9 : AC := .reg [⟨(some 8), .mv (.k (.I 0)), none⟩] false
abbrev c14_10 : AC := .reg [⟨(some 21), .mv (.t 8), none⟩,
  ⟨(some 22), .mv (.t 7), none⟩,
  ⟨(some 23), .len (.t 22), none⟩,
  ⟨(some 24), .bin .lss (.t 21) (.t 23), none⟩] false
abbrev c14_11 : AC := .cond (.t 24) .skip (.exit 0)
abbrev c14_12 : AC := .seq c14_10 c14_11
abbrev c14_13 : AC := .regD [(⟨(some 27), .mv (.t 6), none⟩, [6]),
  (⟨(some 28), .mv (.t 7), none⟩, [7]),
  (⟨(some 29), .mv (.t 8), none⟩, [8]),
  (⟨(some 30), .iad 1 (.t 28) (.t 29), none⟩, [28, 29]),
  (⟨(some 31), .ld none (.t 30), none⟩, [30]),
  (⟨(some 32), .mv (.t 0), none⟩, [0]),
  (⟨(some 33), .mv (.t 7), none⟩, [7]),
  (⟨(some 34), .mv (.t 8), none⟩, [8]),
  (⟨(some 35), .iad 1 (.t 33) (.t 34), none⟩, [33, 34]),
  (⟨(some 36), .ld none (.t 35), none⟩, [35]),
  (⟨(some 37), .call 36 [(.t 32), (.t 36)], none⟩, [32, 36]),
  (⟨(some 38), .mv (.t 1), none⟩, [1]),
  (⟨(some 39), .mv (.t 7), none⟩, [7]),
  (⟨(some 40), .mv (.t 8), none⟩, [8]),
  (⟨(some 41), .iad 1 (.t 39) (.t 40), none⟩, [39, 40]),
  (⟨(some 42), .ld none (.t 41), none⟩, [41]),
  (⟨(some 43), .call 36 [(.t 38), (.t 42)], none⟩, [38, 42]),
  (⟨(some 44), .call 35 [(.t 27), (.t 31), (.t 37), (.t 43)], none⟩, [27, 31, 37, 43]),
  (⟨(some 6), .mv (.t 44), none⟩, [44])]
abbrev c14_14 : AC := .block 1 c14_13
abbrev c14_15 : AC := .reg [⟨(some 25), .mv (.t 8), none⟩,
  ⟨(some 26), .bin .add (.t 25) (.k (.I 1)), none⟩,
  ⟨(some 8), .mv (.t 26), none⟩] false
abbrev c14_16 : AC := .seq c14_14 c14_15
abbrev c14_17 : AC := .seq c14_12 c14_16
abbrev c14_18 : AC := .loop c14_17
abbrev c14_19 : AC := .block 0 c14_18
abbrev c14_20 : AC := .seq c14_9 c14_19
abbrev c14_21 : AC := .reg [⟨(some 45), .mv (.t 6), none⟩,
  ⟨(some 46), .len (.t 45), none⟩,
  ⟨(some 47), .bin .gtr (.t 46) (.k (.I 64)), none⟩] false
abbrev c14_22 : AC := .reg [⟨(some 4), .mv (.k (.c .nil)), none⟩,
  ⟨(some 5), .mv (.k (.I 6)), none⟩] false
abbrev c14_23 : AC := .seq c14_22 .ret
abbrev c14_24 : AC := .cond (.t 47) c14_23 .skip
abbrev c14_25 : AC := .seq c14_21 c14_24
abbrev c14_26 : AC := .reg [⟨(some 48), .mv (.t 6), none⟩,
  ⟨(some 4), .mv (.t 48), none⟩,
  ⟨(some 5), .mv (.k (.I 0)), none⟩] false
abbrev c14_27 : AC := .seq c14_26 .ret
abbrev c14_28 : AC := .seq c14_25 c14_27
abbrev c14_29 : AC := .seq c14_20 c14_28
abbrev c14_30 : AC := .seq c14_8 c14_29
abbrev c14_31 : AC := .seq c14_7 c14_30
abbrev c14_32 : AC := .seq c14_6 c14_31
abbrev c14_33 : AC := .seq c14_1 c14_32
abbrev c14 : AC := c14_33
theorem code14 : fnCode Try.prog 14 = some (c14, [4, 5], 49) := by kernel_rfl
/- coinage/coinagebase.Changes -/
abbrev c15_1 : AC := .reg [⟨(some 4), .mv (.k (.B false)), none⟩] false
abbrev c15_2 : AC := .reg [⟨(some 6), .mv (.t 0), none⟩,
  ⟨(some 7), .len (.t 6), none⟩,
  ⟨(some 8), .mv (.t 1), none⟩,
  ⟨(some 9), .len (.t 8), none⟩,
  ⟨(some 10), .bin .neq (.t 7) (.t 9), none⟩] false
abbrev c15_3 : AC := .reg [⟨(some 4), .mv (.k (.B false)), none⟩] false
abbrev c15_4 : AC := .seq c15_3 .ret
abbrev c15_5 : AC := .cond (.t 10) c15_4 .skip
abbrev c15_6 : AC := .seq c15_2 c15_5
abbrev c15_7 : AC := .reg [⟨(some 5), .mv (.k (.I 0)), none⟩] false
abbrev c15_8 : AC := .reg [⟨(some 11), .mv (.t 5), none⟩,
  ⟨(some 12), .mv (.t 0), none⟩,
  ⟨(some 13), .len (.t 12), none⟩,
  ⟨(some 14), .bin .lss (.t 11) (.t 13), none⟩] false
abbrev c15_9 : AC := .cond (.t 14) .skip (.exit 0)
abbrev c15_10 : AC := .seq c15_8 c15_9
abbrev c15_11 : AC := .regD [(⟨(some 17), .mv (.t 0), none⟩, [0]),
  (⟨(some 18), .mv (.t 5), none⟩, [5]),
  (⟨(some 19), .iad 5 (.t 17) (.t 18), none⟩, [17, 18]),
  (⟨(some 20), .ld (some 5) (.t 19), none⟩, [19]),
  (⟨(some 21), .mv (.t 1), none⟩, [1]),
  (⟨(some 22), .mv (.t 5), none⟩, [5]),
  (⟨(some 23), .iad 5 (.t 21) (.t 22), none⟩, [21, 22]),
  (⟨(some 24), .ld (some 5) (.t 23), none⟩, [23]),
  (⟨(some 25), .eqs true [false, false, false, true, true] (.t 20) (.t 24), none⟩, [20, 24])]
abbrev c15_12 : AC := .reg [⟨(some 4), .mv (.k (.B false)), none⟩] false
abbrev c15_13 : AC := .seq c15_12 .ret
abbrev c15_14 : AC := .cond (.t 25) c15_13 .skip
abbrev c15_15 : AC := .seq c15_11 c15_14
abbrev c15_16 : AC := .block 1 c15_15
abbrev c15_17 : AC := .reg [⟨(some 15), .mv (.t 5), none⟩,
  ⟨(some 16), .bin .add (.t 15) (.k (.I 1)), none⟩,
  ⟨(some 5), .mv (.t 16), none⟩] false
abbrev c15_18 : AC := .seq c15_16 c15_17
abbrev c15_19 : AC := .seq c15_10 c15_18
abbrev c15_20 : AC := .loop c15_19
abbrev c15_21 : AC := .block 0 c15_20
abbrev c15_22 : AC := .seq c15_7 c15_21
abbrev c15_23 : AC := .reg [⟨(some 4), .mv (.k (.B true)), none⟩] false
abbrev c15_24 : AC := .seq c15_23 .ret
abbrev c15_25 : AC := .seq c15_22 c15_24
abbrev c15_26 : AC := .seq c15_6 c15_25
abbrev c15_27 : AC := .seq c15_1 c15_26
abbrev c15 : AC := c15_27
theorem code15 : fnCode Try.prog 15 = some (c15, [4], 26) := by kernel_rfl
/- coinage/coinagebase.Entries -/
abbrev c16_1 : AC := .reg [⟨(some 4), .mv (.k (.B false)), none⟩] false
abbrev c16_2 : AC := .reg [⟨(some 6), .mv (.t 0), none⟩,
  ⟨(some 7), .len (.t 6), none⟩,
  ⟨(some 8), .mv (.t 1), none⟩,
  ⟨(some 9), .len (.t 8), none⟩,
  ⟨(some 10), .bin .neq (.t 7) (.t 9), none⟩] false
abbrev c16_3 : AC := .reg [⟨(some 4), .mv (.k (.B false)), none⟩] false
abbrev c16_4 : AC := .seq c16_3 .ret
abbrev c16_5 : AC := .cond (.t 10) c16_4 .skip
abbrev c16_6 : AC := .seq c16_2 c16_5
abbrev c16_7 : AC := .reg [⟨(some 5), .mv (.k (.I 0)), none⟩] false
abbrev c16_8 : AC := .reg [⟨(some 11), .mv (.t 5), none⟩,
  ⟨(some 12), .mv (.t 0), none⟩,
  ⟨(some 13), .len (.t 12), none⟩,
  ⟨(some 14), .bin .lss (.t 11) (.t 13), none⟩] false
abbrev c16_9 : AC := .cond (.t 14) .skip (.exit 0)
abbrev c16_10 : AC := .seq c16_8 c16_9
abbrev c16_11 : AC := .regD [(⟨(some 17), .mv (.t 0), none⟩, [0]),
  (⟨(some 18), .mv (.t 5), none⟩, [5]),
  (⟨(some 19), .iad 2 (.t 17) (.t 18), none⟩, [17, 18]),
  (⟨(some 20), .ld (some 2) (.t 19), none⟩, [19]),
  (⟨(some 21), .mv (.t 1), none⟩, [1]),
  (⟨(some 22), .mv (.t 5), none⟩, [5]),
  (⟨(some 23), .iad 2 (.t 21) (.t 22), none⟩, [21, 22]),
  (⟨(some 24), .ld (some 2) (.t 23), none⟩, [23]),
  (⟨(some 25), .eqs true [false, false] (.t 20) (.t 24), none⟩, [20, 24])]
abbrev c16_12 : AC := .reg [⟨(some 4), .mv (.k (.B false)), none⟩] false
abbrev c16_13 : AC := .seq c16_12 .ret
abbrev c16_14 : AC := .cond (.t 25) c16_13 .skip
abbrev c16_15 : AC := .seq c16_11 c16_14
abbrev c16_16 : AC := .block 1 c16_15
abbrev c16_17 : AC := .reg [⟨(some 15), .mv (.t 5), none⟩,
  ⟨(some 16), .bin .add (.t 15) (.k (.I 1)), none⟩,
  ⟨(some 5), .mv (.t 16), none⟩] false
abbrev c16_18 : AC := .seq c16_16 c16_17
abbrev c16_19 : AC := .seq c16_10 c16_18
abbrev c16_20 : AC := .loop c16_19
abbrev c16_21 : AC := .block 0 c16_20
abbrev c16_22 : AC := .seq c16_7 c16_21
abbrev c16_23 : AC := .reg [⟨(some 4), .mv (.k (.B true)), none⟩] false
abbrev c16_24 : AC := .seq c16_23 .ret
abbrev c16_25 : AC := .seq c16_22 c16_24
abbrev c16_26 : AC := .seq c16_6 c16_25
abbrev c16_27 : AC := .seq c16_1 c16_26
abbrev c16 : AC := c16_27
theorem code16 : fnCode Try.prog 16 = some (c16, [4], 26) := by kernel_rfl
/- coinage/opinion.Merge -/
abbrev c17_1 : AC := .reg [⟨(some 6), .mv (.k (.c .nil)), none⟩,
  ⟨(some 7), .mv (.k (.c .nil)), none⟩,
  ⟨(some 8), .mv (.k (.I 0)), none⟩] false
abbrev c17_2 : AC := .reg [⟨(some 17), .mv (.t 0), none⟩,
  ⟨(some 18), .call 20 [(.t 17)], none⟩,
  ⟨(some 19), .not (.t 18), none⟩,
  ⟨(some 20), .mv (.t 19), none⟩,
  ⟨(some 21), .mv (.t 1), (some (20, false))⟩,
  ⟨(some 22), .call 20 [(.t 21)], (some (20, false))⟩,
  ⟨(some 23), .not (.t 22), (some (20, false))⟩,
  ⟨(some 24), .pick (.t 20) (.k (.B true)) (.t 23), none⟩,
  ⟨(some 25), .mv (.t 24), none⟩,
  ⟨(some 26), .mv (.t 2), (some (25, false))⟩,
  ⟨(some 27), .call 20 [(.t 26)], (some (25, false))⟩,
  ⟨(some 28), .not (.t 27), (some (25, false))⟩,
  ⟨(some 29), .pick (.t 25) (.k (.B true)) (.t 28), none⟩] false
abbrev c17_3 : AC := .reg [⟨(some 6), .mv (.k (.c .nil)), none⟩,
  ⟨(some 7), .mv (.k (.c .nil)), none⟩,
  ⟨(some 8), .mv (.k (.I 1)), none⟩] false
abbrev c17_4 : AC := .seq c17_3 .ret
abbrev c17_5 : AC := .cond (.t 29) c17_4 .skip
abbrev c17_6 : AC := .seq c17_2 c17_5
abbrev c17_7 : AC := .reg [⟨(some 30), .mv (.t 0), none⟩,
  ⟨(some 31), .call 31 [(.t 30)], none⟩,
  ⟨(some 32), .mv (.t 1), none⟩,
  ⟨(some 33), .call 31 [(.t 32)], none⟩,
  ⟨(some 34), .mv (.t 2), none⟩,
  ⟨(some 35), .call 31 [(.t 34)], none⟩,
  ⟨(some 9), .mv (.t 31), none⟩,
  ⟨(some 10), .mv (.t 33), none⟩,
  ⟨(some 11), .mv (.t 35), none⟩] false
abbrev c17_8 : AC := .reg [⟨(some 36), .mkmap (.one .i64), none⟩,
  ⟨(some 12), .mv (.t 36), none⟩] false
abbrev c17_9 : AC := .reg [⟨(some 13), .mv (.k (.c .nil)), none⟩] false
abbrev c17_10 : AC := .reg [⟨(some 37), .mv (.t 9), none⟩,
  ⟨(some 38), .mv (.t 10), none⟩,
  ⟨(some 39), .mv (.t 11), none⟩,
  ⟨(some 40), .bslice 45 1 [(.t 37), (.t 38), (.t 39)], none⟩,
  ⟨(some 41), .call 32 [(.t 40)], none⟩,
  ⟨(some 42), .len (.t 41), none⟩,
  ⟨(some 43), .mv (.k (.I 0)), none⟩] false
abbrev c17_11 : AC := .reg [⟨(some 44), .bin .lss (.t 43) (.t 42), none⟩] false
abbrev c17_12 : AC := .cond (.t 44) .skip (.exit 0)
abbrev c17_13 : AC := .reg [⟨(some 45), .iad 1 (.t 41) (.t 43), none⟩,
  ⟨(some 46), .ld none (.t 45), none⟩,
  ⟨(some 15), .mv (.t 46), none⟩] false
abbrev c17_14 : AC := .reg [⟨(some 57), .mv (.t 10), none⟩,
  ⟨(some 58), .mv (.t 15), none⟩,
  ⟨(some 59), .look (.one .i64) (.inr [(.sc (.int .i64 0)), (.sc (.bool false))]) false (.t 57) (.t 58), none⟩,
  ⟨(some 60), .mv (.t 11), none⟩,
  ⟨(some 61), .mv (.t 15), none⟩,
  ⟨(some 62), .look (.one .i64) (.inr [(.sc (.int .i64 0)), (.sc (.bool false))]) false (.t 60) (.t 61), none⟩,
  ⟨(some 63), .eqs false [false, true] (.t 59) (.t 62), none⟩,
  ⟨(some 56), .mv (.t 63), none⟩] false
abbrev c17_15 : AC := .reg [⟨(some 64), .mv (.t 11), none⟩,
  ⟨(some 65), .mv (.t 15), none⟩,
  ⟨(some 66), .look (.one .i64) (.inr [(.sc (.int .i64 0)), (.sc (.bool false))]) false (.t 64) (.t 65), none⟩,
  ⟨(some 67), .mv (.t 9), none⟩,
  ⟨(some 68), .mv (.t 15), none⟩,
  ⟨(some 69), .look (.one .i64) (.inr [(.sc (.int .i64 0)), (.sc (.bool false))]) false (.t 67) (.t 68), none⟩,
  ⟨(some 70), .eqs false [false, true] (.t 66) (.t 69), none⟩,
  ⟨(some 56), .mv (.t 70), none⟩] false
abbrev c17_16 : AC := .cond (.t 56) .skip c17_15
abbrev c17_17 : AC := .seq c17_14 c17_16
abbrev c17_18 : AC := .reg [⟨(some 71), .mv (.t 12), none⟩,
  ⟨(some 72), .mv (.t 15), none⟩,
  ⟨(some 73), .mv (.t 10), none⟩,
  ⟨(some 74), .mv (.t 15), none⟩,
  ⟨(some 75), .look (.one .i64) (.inr [(.sc (.int .i64 0)), (.sc (.bool false))]) false (.t 73) (.t 74), none⟩,
  ⟨none, .mset (.one .i64) (.t 71) (.t 72) (.t 75), none⟩] false
abbrev c17_19 : AC := .reg [⟨(some 77), .mv (.t 10), none⟩,
  ⟨(some 78), .mv (.t 15), none⟩,
  ⟨(some 79), .look (.one .i64) (.inr [(.sc (.int .i64 0)), (.sc (.bool false))]) false (.t 77) (.t 78), none⟩,
  ⟨(some 80), .mv (.t 9), none⟩,
  ⟨(some 81), .mv (.t 15), none⟩,
  ⟨(some 82), .look (.one .i64) (.inr [(.sc (.int .i64 0)), (.sc (.bool false))]) false (.t 80) (.t 81), none⟩,
  ⟨(some 83), .eqs false [false, true] (.t 79) (.t 82), none⟩,
  ⟨(some 76), .mv (.t 83), none⟩] false
abbrev c17_20 : AC := .reg [⟨(some 84), .mv (.t 12), none⟩,
  ⟨(some 85), .mv (.t 15), none⟩,
  ⟨(some 86), .mv (.t 11), none⟩,
  ⟨(some 87), .mv (.t 15), none⟩,
  ⟨(some 88), .look (.one .i64) (.inr [(.sc (.int .i64 0)), (.sc (.bool false))]) false (.t 86) (.t 87), none⟩,
  ⟨none, .mset (.one .i64) (.t 84) (.t 85) (.t 88), none⟩] false
abbrev c17_21 : AC := .reg [⟨(some 47), .mv (.t 12), none⟩,
  ⟨(some 48), .mv (.t 15), none⟩,
  ⟨(some 49), .mv (.t 9), none⟩,
  ⟨(some 50), .mv (.t 15), none⟩,
  ⟨(some 51), .look (.one .i64) (.inr [(.sc (.int .i64 0)), (.sc (.bool false))]) false (.t 49) (.t 50), none⟩,
  ⟨none, .mset (.one .i64) (.t 47) (.t 48) (.t 51), none⟩] false
abbrev c17_22 : AC := .reg [⟨(some 52), .mv (.t 13), none⟩,
  ⟨(some 53), .mv (.t 15), none⟩,
  ⟨(some 54), .bslice 3 1 [(.t 53)], none⟩,
  ⟨(some 55), .app 3 1 8 (.t 52) (.t 54), none⟩,
  ⟨(some 13), .mv (.t 55), none⟩] false
abbrev c17_23 : AC := .seq c17_21 c17_22
abbrev c17_24 : AC := .cond (.t 76) c17_20 c17_23
abbrev c17_25 : AC := .seq c17_19 c17_24
abbrev c17_26 : AC := .cond (.t 56) c17_18 c17_25
abbrev c17_27 : AC := .seq c17_17 c17_26
abbrev c17_28 : AC := .block 2 c17_27
abbrev c17_29 : AC := .seq c17_13 c17_28
abbrev c17_30 : AC := .block 1 c17_29
abbrev c17_31 : AC := .reg [⟨(some 89), .bin .add (.t 43) (.k (.I 1)), none⟩,
  ⟨(some 43), .mv (.t 89), none⟩] false
abbrev c17_32 : AC := .seq c17_30 c17_31
abbrev c17_33 : AC := .seq c17_12 c17_32
abbrev c17_34 : AC := .seq c17_11 c17_33
abbrev c17_35 : AC := .loop c17_34
abbrev c17_36 : AC := .block 0 c17_35
abbrev c17_37 : AC := .seq c17_10 c17_36
abbrev c17_38 : AC := .reg [⟨(some 90), .mv (.t 12), none⟩,
  ⟨(some 91), .call 37 [(.t 90)], none⟩,
  ⟨(some 16), .mv (.t 91), none⟩] false
abbrev c17_39 : AC := .reg [⟨(some 92), .mv (.t 16), none⟩,
  ⟨(some 93), .len (.t 92), none⟩,
  ⟨(some 94), .bin .gtr (.t 93) (.k (.I 64)), none⟩,
  ⟨(some 95), .mv (.t 94), none⟩,
  ⟨(some 96), .mv (.t 13), (some (95, false))⟩,
  ⟨(some 97), .len (.t 96), (some (95, false))⟩,
  ⟨(some 98), .bin .gtr (.t 97) (.k (.I 64)), (some (95, false))⟩,
  ⟨(some 99), .pick (.t 95) (.k (.B true)) (.t 98), none⟩] false
abbrev c17_40 : AC := .reg [⟨(some 6), .mv (.k (.c .nil)), none⟩,
  ⟨(some 7), .mv (.k (.c .nil)), none⟩,
  ⟨(some 8), .mv (.k (.I 6)), none⟩] false
abbrev c17_41 : AC := .seq c17_40 .ret
abbrev c17_42 : AC := .cond (.t 99) c17_41 .skip
abbrev c17_43 : AC := .seq c17_39 c17_42
abbrev c17_44 : AC := .reg [⟨(some 100), .mv (.t 16), none⟩,
  ⟨(some 101), .mv (.t 13), none⟩,
  ⟨(some 6), .mv (.t 100), none⟩,
  ⟨(some 7), .mv (.t 101), none⟩,
  ⟨(some 8), .mv (.k (.I 0)), none⟩] false
abbrev c17_45 : AC := .seq c17_44 .ret
abbrev c17_46 : AC := .seq c17_43 c17_45
abbrev c17_47 : AC := .seq c17_38 c17_46
abbrev c17_48 : AC := .seq c17_37 c17_47
abbrev c17_49 : AC := .seq c17_9 c17_48
abbrev c17_50 : AC := .seq c17_8 c17_49
abbrev c17_51 : AC := .seq c17_7 c17_50
abbrev c17_52 : AC := .seq c17_6 c17_51
abbrev c17_53 : AC := .seq c17_1 c17_52
abbrev c17 : AC := c17_53
theorem code17 : fnCode Try.prog 17 = some (c17, [6, 7, 8], 102) := by kernel_rfl
/- coinage/coinagebase.Ints -/
abbrev c19_1 : AC := .reg [⟨(some 4), .mv (.k (.B false)), none⟩] false
abbrev c19_2 : AC := .reg [⟨(some 6), .mv (.t 0), none⟩,
  ⟨(some 7), .len (.t 6), none⟩,
  ⟨(some 8), .mv (.t 1), none⟩,
  ⟨(some 9), .len (.t 8), none⟩,
  ⟨(some 10), .bin .neq (.t 7) (.t 9), none⟩] false
abbrev c19_3 : AC := .reg [⟨(some 4), .mv (.k (.B false)), none⟩] false
abbrev c19_4 : AC := .seq c19_3 .ret
abbrev c19_5 : AC := .cond (.t 10) c19_4 .skip
abbrev c19_6 : AC := .seq c19_2 c19_5
abbrev c19_7 : AC := .reg [⟨(some 5), .mv (.k (.I 0)), none⟩] false
abbrev c19_8 : AC := .reg [⟨(some 11), .mv (.t 5), none⟩,
  ⟨(some 12), .mv (.t 0), none⟩,
  ⟨(some 13), .len (.t 12), none⟩,
  ⟨(some 14), .bin .lss (.t 11) (.t 13), none⟩] false
abbrev c19_9 : AC := .cond (.t 14) .skip (.exit 0)
abbrev c19_10 : AC := .seq c19_8 c19_9
abbrev c19_11 : AC := .regD [(⟨(some 17), .mv (.t 0), none⟩, [0]),
  (⟨(some 18), .mv (.t 5), none⟩, [5]),
  (⟨(some 19), .iad 1 (.t 17) (.t 18), none⟩, [17, 18]),
  (⟨(some 20), .ld none (.t 19), none⟩, [19]),
  (⟨(some 21), .mv (.t 1), none⟩, [1]),
  (⟨(some 22), .mv (.t 5), none⟩, [5]),
  (⟨(some 23), .iad 1 (.t 21) (.t 22), none⟩, [21, 22]),
  (⟨(some 24), .ld none (.t 23), none⟩, [23]),
  (⟨(some 25), .bin .neq (.t 20) (.t 24), none⟩, [20, 24])]
abbrev c19_12 : AC := .reg [⟨(some 4), .mv (.k (.B false)), none⟩] false
abbrev c19_13 : AC := .seq c19_12 .ret
abbrev c19_14 : AC := .cond (.t 25) c19_13 .skip
abbrev c19_15 : AC := .seq c19_11 c19_14
abbrev c19_16 : AC := .block 1 c19_15
abbrev c19_17 : AC := .reg [⟨(some 15), .mv (.t 5), none⟩,
  ⟨(some 16), .bin .add (.t 15) (.k (.I 1)), none⟩,
  ⟨(some 5), .mv (.t 16), none⟩] false
abbrev c19_18 : AC := .seq c19_16 c19_17
abbrev c19_19 : AC := .seq c19_10 c19_18
abbrev c19_20 : AC := .loop c19_19
abbrev c19_21 : AC := .block 0 c19_20
abbrev c19_22 : AC := .seq c19_7 c19_21
abbrev c19_23 : AC := .reg [⟨(some 4), .mv (.k (.B true)), none⟩] false
abbrev c19_24 : AC := .seq c19_23 .ret
abbrev c19_25 : AC := .seq c19_22 c19_24
abbrev c19_26 : AC := .seq c19_6 c19_25
abbrev c19_27 : AC := .seq c19_1 c19_26
abbrev c19 : AC := c19_27
theorem code19 : fnCode Try.prog 19 = some (c19, [4], 26) := by kernel_rfl
/- coinage/opinion.Valid -/
abbrev c20_1 : AC := .reg [⟨(some 2), .mv (.k (.B false)), none⟩] false
abbrev c20_2 : AC := .reg [⟨(some 4), .mv (.t 0), none⟩,
  ⟨(some 5), .len (.t 4), none⟩,
  ⟨(some 6), .mv (.k (.I 0)), none⟩] false
abbrev c20_3 : AC := .reg [⟨(some 7), .bin .lss (.t 6) (.t 5), none⟩] false
abbrev c20_4 : AC := .cond (.t 7) .skip (.exit 0)
abbrev c20_5 : AC := .reg [⟨(some 8), .mv (.t 6), none⟩,
  ⟨(some 3), .mv (.t 8), none⟩] false
abbrev c20_6 : AC := .regD [(⟨(some 9), .mv (.t 3), none⟩, [3]),
  (⟨(some 10), .bin .gtr (.t 9) (.k (.I 0)), none⟩, [9]),
  (⟨(some 11), .mv (.t 10), none⟩, [10]),
  (⟨(some 12), .mv (.t 0), (some (11, true))⟩, [0, 11]),
  (⟨(some 13), .mv (.t 3), (some (11, true))⟩, [3, 11]),
  (⟨(some 14), .iad 2 (.t 12) (.t 13), (some (11, true))⟩, [12, 13, 11]),
  (⟨(some 15), .fad 0 (.t 14), (some (11, true))⟩, [14, 11]),
  (⟨(some 16), .ld none (.t 15), (some (11, true))⟩, [15, 11]),
  (⟨(some 17), .mv (.t 0), (some (11, true))⟩, [0, 11]),
  (⟨(some 18), .mv (.t 3), (some (11, true))⟩, [3, 11]),
  (⟨(some 19), .bin .sub (.t 18) (.k (.I 1)), (some (11, true))⟩, [18, 11]),
  (⟨(some 20), .iad 2 (.t 17) (.t 19), (some (11, true))⟩, [17, 19, 11]),
  (⟨(some 21), .fad 0 (.t 20), (some (11, true))⟩, [20, 11]),
  (⟨(some 22), .ld none (.t 21), (some (11, true))⟩, [21, 11]),
  (⟨(some 23), .bin .leq (.t 16) (.t 22), (some (11, true))⟩, [16, 22, 11]),
  (⟨(some 24), .pick (.t 11) (.t 23) (.k (.B false)), none⟩, [11, 23])]
abbrev c20_7 : AC := .reg [⟨(some 2), .mv (.k (.B false)), none⟩] false
abbrev c20_8 : AC := .seq c20_7 .ret
abbrev c20_9 : AC := .cond (.t 24) c20_8 .skip
abbrev c20_10 : AC := .seq c20_6 c20_9
abbrev c20_11 : AC := .seq c20_5 c20_10
abbrev c20_12 : AC := .block 1 c20_11
abbrev c20_13 : AC := .reg [⟨(some 25), .bin .add (.t 6) (.k (.I 1)), none⟩,
  ⟨(some 6), .mv (.t 25), none⟩] false
abbrev c20_14 : AC := .seq c20_12 c20_13
abbrev c20_15 : AC := .seq c20_4 c20_14
abbrev c20_16 : AC := .seq c20_3 c20_15
abbrev c20_17 : AC := .loop c20_16
abbrev c20_18 : AC := .block 0 c20_17
abbrev c20_19 : AC := .seq c20_2 c20_18
abbrev c20_20 : AC := .reg [⟨(some 26), .mv (.t 0), none⟩,
  ⟨(some 27), .len (.t 26), none⟩,
  ⟨(some 28), .bin .leq (.t 27) (.k (.I 64)), none⟩,
  ⟨(some 2), .mv (.t 28), none⟩] false
abbrev c20_21 : AC := .seq c20_20 .ret
abbrev c20_22 : AC := .seq c20_19 c20_21
abbrev c20_23 : AC := .seq c20_1 c20_22
abbrev c20 : AC := c20_23
theorem code20 : fnCode Try.prog 20 = some (c20, [2], 29) := by kernel_rfl
/- coinage/coinagelaw12.some -/
abbrev c21_1 : AC := .reg [⟨(some 2), .mv (.k (.B false)), none⟩] false
abbrev c21_2 : AC := .reg [⟨(some 3), .mv (.t 0), none⟩,
  ⟨(some 4), .len (.t 3), none⟩,
  ⟨(some 5), .bin .leq (.t 4) (.k (.I 100)), none⟩,
  ⟨(some 2), .mv (.t 5), none⟩] false
abbrev c21_3 : AC := .seq c21_2 .ret
abbrev c21_4 : AC := .seq c21_1 c21_3
abbrev c21 : AC := c21_4
theorem code21 : fnCode Try.prog 21 = some (c21, [2], 6) := by kernel_rfl
/- coinage/opinion.Invert -/
abbrev c22_1 : AC := .reg [⟨(some 2), .mv (.k (.c .nil)), none⟩,
  ⟨(some 3), .mv (.k (.I 0)), none⟩] false
abbrev c22_2 : AC := .reg [⟨(some 7), .mv (.t 0), none⟩,
  ⟨(some 8), .call 25 [(.t 7)], none⟩,
  ⟨(some 9), .not (.t 8), none⟩] false
abbrev c22_3 : AC := .reg [⟨(some 2), .mv (.k (.c .nil)), none⟩,
  ⟨(some 3), .mv (.k (.I 1)), none⟩] false
abbrev c22_4 : AC := .seq c22_3 .ret
abbrev c22_5 : AC := .cond (.t 9) c22_4 .skip
abbrev c22_6 : AC := .seq c22_2 c22_5
abbrev c22_7 : AC := .reg [⟨(some 4), .mv (.k (.c .nil)), none⟩] false
abbrev c22_8 : AC := .reg [⟨(some 10), .mv (.t 0), none⟩,
  ⟨(some 11), .len (.t 10), none⟩,
  ⟨(some 12), .mv (.k (.I 0)), none⟩] false
abbrev c22_9 : AC := .reg [⟨(some 13), .bin .lss (.t 12) (.t 11), none⟩] false
abbrev c22_10 : AC := .cond (.t 13) .skip (.exit 0)
abbrev c22_11 : AC := .reg [⟨(some 14), .iad 5 (.t 10) (.t 12), none⟩,
  ⟨(some 15), .ld (some 5) (.t 14), none⟩,
  ⟨(some 6), .alloc 51 [(.I 0), (.I 0), (.I 0), (.B false), (.B false)], none⟩,
  ⟨none, .st (some 5) (.t 6) (.t 15), none⟩] false
abbrev c22_12 : AC := .regX (.first ⟨(some 16), .mv (.t 4), none⟩
  (.first ⟨(some 17), .fad 0 (.t 6), none⟩
  (.fork ⟨(some 18), .ld none (.t 17), none⟩
  (.fork ⟨(some 19), .ld (some 5) (.t 6), none⟩
  (.fork ⟨(some 20), .call 39 [(.t 19)], none⟩
  (.fork ⟨(some 21), .ld (some 5) (.t 6), none⟩
  (.fork ⟨(some 22), .call 40 [(.t 21)], none⟩
  (.fork ⟨(some 23), .call 33 [(.t 18), (.t 20), (.t 22)], none⟩
  (.fork ⟨(some 24), .bslice 51 5 [(.t 23)], none⟩
  (.fork ⟨(some 25), .app 51 5 32 (.t 16) (.t 24), none⟩
  (.first ⟨(some 4), .mv (.t 25), none⟩
  .done)
  .nope)
  .nope)
  .nope)
  .nope)
  .nope)
  (.fork ⟨(some 21), .ld (some 5) (.t 6), none⟩
  (.fork ⟨(some 20), .call 39 [(.t 19)], none⟩
  (.fork ⟨(some 22), .call 40 [(.t 21)], none⟩
  (.fork ⟨(some 23), .call 33 [(.t 18), (.t 20), (.t 22)], none⟩
  (.fork ⟨(some 24), .bslice 51 5 [(.t 23)], none⟩
  (.fork ⟨(some 25), .app 51 5 32 (.t 16) (.t 24), none⟩
  (.first ⟨(some 4), .mv (.t 25), none⟩
  .done)
  .nope)
  .nope)
  .nope)
  .nope)
  .nope)
  .nope))
  (.fork ⟨(some 21), .ld (some 5) (.t 6), none⟩
  (.fork ⟨(some 19), .ld (some 5) (.t 6), none⟩
  (.fork ⟨(some 20), .call 39 [(.t 19)], none⟩
  (.fork ⟨(some 22), .call 40 [(.t 21)], none⟩
  (.fork ⟨(some 23), .call 33 [(.t 18), (.t 20), (.t 22)], none⟩
  (.fork ⟨(some 24), .bslice 51 5 [(.t 23)], none⟩
  (.fork ⟨(some 25), .app 51 5 32 (.t 16) (.t 24), none⟩
  (.first ⟨(some 4), .mv (.t 25), none⟩
  .done)
  .nope)
  .nope)
  .nope)
  .nope)
  .nope)
  .nope)
  .nope))
  (.fork ⟨(some 19), .ld (some 5) (.t 6), none⟩
  (.fork ⟨(some 18), .ld none (.t 17), none⟩
  (.fork ⟨(some 20), .call 39 [(.t 19)], none⟩
  (.fork ⟨(some 21), .ld (some 5) (.t 6), none⟩
  (.fork ⟨(some 22), .call 40 [(.t 21)], none⟩
  (.fork ⟨(some 23), .call 33 [(.t 18), (.t 20), (.t 22)], none⟩
  (.fork ⟨(some 24), .bslice 51 5 [(.t 23)], none⟩
  (.fork ⟨(some 25), .app 51 5 32 (.t 16) (.t 24), none⟩
  (.first ⟨(some 4), .mv (.t 25), none⟩
  .done)
  .nope)
  .nope)
  .nope)
  .nope)
  .nope)
  (.fork ⟨(some 21), .ld (some 5) (.t 6), none⟩
  (.fork ⟨(some 20), .call 39 [(.t 19)], none⟩
  (.fork ⟨(some 22), .call 40 [(.t 21)], none⟩
  (.fork ⟨(some 23), .call 33 [(.t 18), (.t 20), (.t 22)], none⟩
  (.fork ⟨(some 24), .bslice 51 5 [(.t 23)], none⟩
  (.fork ⟨(some 25), .app 51 5 32 (.t 16) (.t 24), none⟩
  (.first ⟨(some 4), .mv (.t 25), none⟩
  .done)
  .nope)
  .nope)
  .nope)
  .nope)
  .nope)
  .nope))
  (.fork ⟨(some 20), .call 39 [(.t 19)], none⟩
  (.fork ⟨(some 18), .ld none (.t 17), none⟩
  (.fork ⟨(some 21), .ld (some 5) (.t 6), none⟩
  (.fork ⟨(some 22), .call 40 [(.t 21)], none⟩
  (.fork ⟨(some 23), .call 33 [(.t 18), (.t 20), (.t 22)], none⟩
  (.fork ⟨(some 24), .bslice 51 5 [(.t 23)], none⟩
  (.fork ⟨(some 25), .app 51 5 32 (.t 16) (.t 24), none⟩
  (.first ⟨(some 4), .mv (.t 25), none⟩
  .done)
  .nope)
  .nope)
  .nope)
  .nope)
  .nope)
  (.fork ⟨(some 21), .ld (some 5) (.t 6), none⟩
  (.fork ⟨(some 18), .ld none (.t 17), none⟩
  (.fork ⟨(some 22), .call 40 [(.t 21)], none⟩
  (.fork ⟨(some 23), .call 33 [(.t 18), (.t 20), (.t 22)], none⟩
  (.fork ⟨(some 24), .bslice 51 5 [(.t 23)], none⟩
  (.fork ⟨(some 25), .app 51 5 32 (.t 16) (.t 24), none⟩
  (.first ⟨(some 4), .mv (.t 25), none⟩
  .done)
  .nope)
  .nope)
  .nope)
  .nope)
  (.fork ⟨(some 22), .call 40 [(.t 21)], none⟩
  (.fork ⟨(some 18), .ld none (.t 17), none⟩
  (.fork ⟨(some 23), .call 33 [(.t 18), (.t 20), (.t 22)], none⟩
  (.fork ⟨(some 24), .bslice 51 5 [(.t 23)], none⟩
  (.fork ⟨(some 25), .app 51 5 32 (.t 16) (.t 24), none⟩
  (.first ⟨(some 4), .mv (.t 25), none⟩
  .done)
  .nope)
  .nope)
  .nope)
  .nope)
  .nope))
  .nope))
  (.fork ⟨(some 21), .ld (some 5) (.t 6), none⟩
  (.fork ⟨(some 18), .ld none (.t 17), none⟩
  (.fork ⟨(some 20), .call 39 [(.t 19)], none⟩
  (.fork ⟨(some 22), .call 40 [(.t 21)], none⟩
  (.fork ⟨(some 23), .call 33 [(.t 18), (.t 20), (.t 22)], none⟩
  (.fork ⟨(some 24), .bslice 51 5 [(.t 23)], none⟩
  (.fork ⟨(some 25), .app 51 5 32 (.t 16) (.t 24), none⟩
  (.first ⟨(some 4), .mv (.t 25), none⟩
  .done)
  .nope)
  .nope)
  .nope)
  .nope)
  .nope)
  (.fork ⟨(some 20), .call 39 [(.t 19)], none⟩
  (.fork ⟨(some 18), .ld none (.t 17), none⟩
  (.fork ⟨(some 22), .call 40 [(.t 21)], none⟩
  (.fork ⟨(some 23), .call 33 [(.t 18), (.t 20), (.t 22)], none⟩
  (.fork ⟨(some 24), .bslice 51 5 [(.t 23)], none⟩
  (.fork ⟨(some 25), .app 51 5 32 (.t 16) (.t 24), none⟩
  (.first ⟨(some 4), .mv (.t 25), none⟩
  .done)
  .nope)
  .nope)
  .nope)
  .nope)
  (.fork ⟨(some 22), .call 40 [(.t 21)], none⟩
  (.fork ⟨(some 18), .ld none (.t 17), none⟩
  (.fork ⟨(some 23), .call 33 [(.t 18), (.t 20), (.t 22)], none⟩
  (.fork ⟨(some 24), .bslice 51 5 [(.t 23)], none⟩
  (.fork ⟨(some 25), .app 51 5 32 (.t 16) (.t 24), none⟩
  (.first ⟨(some 4), .mv (.t 25), none⟩
  .done)
  .nope)
  .nope)
  .nope)
  .nope)
  .nope))
  .nope))
  .nope)))
  (.fork ⟨(some 21), .ld (some 5) (.t 6), none⟩
  (.fork ⟨(some 18), .ld none (.t 17), none⟩
  (.fork ⟨(some 19), .ld (some 5) (.t 6), none⟩
  (.fork ⟨(some 20), .call 39 [(.t 19)], none⟩
  (.fork ⟨(some 22), .call 40 [(.t 21)], none⟩
  (.fork ⟨(some 23), .call 33 [(.t 18), (.t 20), (.t 22)], none⟩
  (.fork ⟨(some 24), .bslice 51 5 [(.t 23)], none⟩
  (.fork ⟨(some 25), .app 51 5 32 (.t 16) (.t 24), none⟩
  (.first ⟨(some 4), .mv (.t 25), none⟩
  .done)
  .nope)
  .nope)
  .nope)
  .nope)
  .nope)
  .nope)
  (.fork ⟨(some 19), .ld (some 5) (.t 6), none⟩
  (.fork ⟨(some 18), .ld none (.t 17), none⟩
  (.fork ⟨(some 20), .call 39 [(.t 19)], none⟩
  (.fork ⟨(some 22), .call 40 [(.t 21)], none⟩
  (.fork ⟨(some 23), .call 33 [(.t 18), (.t 20), (.t 22)], none⟩
  (.fork ⟨(some 24), .bslice 51 5 [(.t 23)], none⟩
  (.fork ⟨(some 25), .app 51 5 32 (.t 16) (.t 24), none⟩
  (.first ⟨(some 4), .mv (.t 25), none⟩
  .done)
  .nope)
  .nope)
  .nope)
  .nope)
  .nope)
  (.fork ⟨(some 20), .call 39 [(.t 19)], none⟩
  (.fork ⟨(some 18), .ld none (.t 17), none⟩
  (.fork ⟨(some 22), .call 40 [(.t 21)], none⟩
  (.fork ⟨(some 23), .call 33 [(.t 18), (.t 20), (.t 22)], none⟩
  (.fork ⟨(some 24), .bslice 51 5 [(.t 23)], none⟩
  (.fork ⟨(some 25), .app 51 5 32 (.t 16) (.t 24), none⟩
  (.first ⟨(some 4), .mv (.t 25), none⟩
  .done)
  .nope)
  .nope)
  .nope)
  .nope)
  (.fork ⟨(some 22), .call 40 [(.t 21)], none⟩
  (.fork ⟨(some 18), .ld none (.t 17), none⟩
  (.fork ⟨(some 23), .call 33 [(.t 18), (.t 20), (.t 22)], none⟩
  (.fork ⟨(some 24), .bslice 51 5 [(.t 23)], none⟩
  (.fork ⟨(some 25), .app 51 5 32 (.t 16) (.t 24), none⟩
  (.first ⟨(some 4), .mv (.t 25), none⟩
  .done)
  .nope)
  .nope)
  .nope)
  .nope)
  .nope))
  .nope))
  .nope))
  .nope)))))
abbrev c22_13 : AC := .seq c22_11 c22_12
abbrev c22_14 : AC := .block 1 c22_13
abbrev c22_15 : AC := .reg [⟨(some 26), .bin .add (.t 12) (.k (.I 1)), none⟩,
  ⟨(some 12), .mv (.t 26), none⟩] false
abbrev c22_16 : AC := .seq c22_14 c22_15
abbrev c22_17 : AC := .seq c22_10 c22_16
abbrev c22_18 : AC := .seq c22_9 c22_17
abbrev c22_19 : AC := .loop c22_18
abbrev c22_20 : AC := .block 0 c22_19
abbrev c22_21 : AC := .seq c22_8 c22_20
abbrev c22_22 : AC := .reg [⟨(some 27), .mv (.t 4), none⟩,
  ⟨(some 2), .mv (.t 27), none⟩,
  ⟨(some 3), .mv (.k (.I 0)), none⟩] false
abbrev c22_23 : AC := .seq c22_22 .ret
abbrev c22_24 : AC := .seq c22_21 c22_23
abbrev c22_25 : AC := .seq c22_7 c22_24
abbrev c22_26 : AC := .seq c22_6 c22_25
abbrev c22_27 : AC := .seq c22_1 c22_26
abbrev c22 : AC := c22_27
theorem code22 : fnCode Try.prog 22 = some (c22, [2, 3], 28) := by kernel_rfl
/- coinage/coinageref12.Invert -/
abbrev c23_1 : AC := .reg [⟨(some 2), .mv (.k (.c .nil)), none⟩,
  ⟨(some 3), .mv (.k (.I 0)), none⟩] false
abbrev c23_2 : AC := .reg [⟨(some 6), .mv (.t 0), none⟩,
  ⟨(some 7), .call 26 [(.t 6)], none⟩,
  ⟨(some 8), .not (.t 7), none⟩] false
abbrev c23_3 : AC := .reg [⟨(some 2), .mv (.k (.c .nil)), none⟩,
  ⟨(some 3), .mv (.k (.I 1)), none⟩] false
abbrev c23_4 : AC := .seq c23_3 .ret
abbrev c23_5 : AC := .cond (.t 8) c23_4 .skip
abbrev c23_6 : AC := .seq c23_2 c23_5
abbrev c23_7 : AC := .reg [⟨(some 4), .mv (.k (.c .nil)), none⟩] false
abbrev c23_8 : AC := .reg [⟨(some 5), .mv (.k (.I 0)), none⟩] false
abbrev c23_9 : AC := .reg [⟨(some 9), .mv (.t 5), none⟩,
  ⟨(some 10), .mv (.t 0), none⟩,
  ⟨(some 11), .len (.t 10), none⟩,
  ⟨(some 12), .bin .lss (.t 9) (.t 11), none⟩] false
abbrev c23_10 : AC := .cond (.t 12) .skip (.exit 0)
abbrev c23_11 : AC := .seq c23_9 c23_10
abbrev c23_12 : AC := .regD [(⟨(some 15), .mv (.t 4), none⟩, [4]),
  (⟨(some 16), .mv (.t 0), none⟩, [0]),
  (⟨(some 17), .mv (.t 5), none⟩, [5]),
  (⟨(some 18), .iad 5 (.t 16) (.t 17), none⟩, [16, 17]),
  (⟨(some 19), .fad 0 (.t 18), none⟩, [18]),
  (⟨(some 20), .ld none (.t 19), none⟩, [19]),
  (⟨(some 21), .mv (.t 0), none⟩, [0]),
  (⟨(some 22), .mv (.t 5), none⟩, [5]),
  (⟨(some 23), .iad 5 (.t 21) (.t 22), none⟩, [21, 22]),
  (⟨(some 24), .ld (some 5) (.t 23), none⟩, [23]),
  (⟨(some 25), .call 41 [(.t 24)], none⟩, [24]),
  (⟨(some 26), .mv (.t 0), none⟩, [0]),
  (⟨(some 27), .mv (.t 5), none⟩, [5]),
  (⟨(some 28), .iad 5 (.t 26) (.t 27), none⟩, [26, 27]),
  (⟨(some 29), .ld (some 5) (.t 28), none⟩, [28]),
  (⟨(some 30), .call 42 [(.t 29)], none⟩, [29]),
  (⟨(some 31), .call 35 [(.t 15), (.t 20), (.t 25), (.t 30)], none⟩, [15, 20, 25, 30]),
  (⟨(some 4), .mv (.t 31), none⟩, [31])]
abbrev c23_13 : AC := .block 1 c23_12
abbrev c23_14 : AC := .reg [⟨(some 13), .mv (.t 5), none⟩,
  ⟨(some 14), .bin .add (.t 13) (.k (.I 1)), none⟩,
  ⟨(some 5), .mv (.t 14), none⟩] false
abbrev c23_15 : AC := .seq c23_13 c23_14
abbrev c23_16 : AC := .seq c23_11 c23_15
abbrev c23_17 : AC := .loop c23_16
abbrev c23_18 : AC := .block 0 c23_17
abbrev c23_19 : AC := .seq c23_8 c23_18
abbrev c23_20 : AC := .reg [⟨(some 32), .mv (.t 4), none⟩,
  ⟨(some 2), .mv (.t 32), none⟩,
  ⟨(some 3), .mv (.k (.I 0)), none⟩] false
abbrev c23_21 : AC := .seq c23_20 .ret
abbrev c23_22 : AC := .seq c23_19 c23_21
abbrev c23_23 : AC := .seq c23_7 c23_22
abbrev c23_24 : AC := .seq c23_6 c23_23
abbrev c23_25 : AC := .seq c23_1 c23_24
abbrev c23 : AC := c23_25
theorem code23 : fnCode Try.prog 23 = some (c23, [2, 3], 33) := by kernel_rfl
/- coinage/coinageref12.Valid -/
abbrev c24_1 : AC := .reg [⟨(some 2), .mv (.k (.B false)), none⟩] false
abbrev c24_2 : AC := .reg [⟨(some 3), .mv (.t 0), none⟩,
  ⟨(some 4), .call 43 [(.t 3), (.k (.I 64))], none⟩,
  ⟨(some 2), .mv (.t 4), none⟩] false
abbrev c24_3 : AC := .seq c24_2 .ret
abbrev c24_4 : AC := .seq c24_1 c24_3
abbrev c24 : AC := c24_4
theorem code24 : fnCode Try.prog 24 = some (c24, [2], 5) := by kernel_rfl
/- coinage/opinion.ValidChanges -/
abbrev c25_1 : AC := .reg [⟨(some 2), .mv (.k (.B false)), none⟩] false
abbrev c25_2 : AC := .reg [⟨(some 7), .mv (.t 0), none⟩,
  ⟨(some 8), .len (.t 7), none⟩,
  ⟨(some 9), .mv (.k (.I 0)), none⟩] false
abbrev c25_3 : AC := .reg [⟨(some 10), .bin .lss (.t 9) (.t 8), none⟩] false
abbrev c25_4 : AC := .cond (.t 10) .skip (.exit 0)
abbrev c25_5 : AC := .reg [⟨(some 11), .mv (.t 9), none⟩,
  ⟨(some 12), .iad 5 (.t 7) (.t 9), none⟩,
  ⟨(some 13), .ld (some 5) (.t 12), none⟩,
  ⟨(some 4), .alloc 51 [(.I 0), (.I 0), (.I 0), (.B false), (.B false)], none⟩,
  ⟨(some 3), .mv (.t 11), none⟩,
  ⟨none, .st (some 5) (.t 4) (.t 13), none⟩] false
abbrev c25_6 : AC := .regX (.fork ⟨(some 14), .ld (some 5) (.t 4), none⟩
  (.fork ⟨(some 15), .call 40 [(.t 14)], none⟩
  (.fork ⟨(some 16), .ld (some 5) (.t 4), none⟩
  (.fork ⟨(some 17), .call 39 [(.t 16)], none⟩
  (.fork ⟨(some 5), .alloc 49 [(.I 0), (.B false)], none⟩
  (.fork ⟨(some 6), .alloc 49 [(.I 0), (.B false)], none⟩
  (.fork ⟨none, .st (some 2) (.t 5) (.t 15), none⟩
  (.fork ⟨none, .st (some 2) (.t 6) (.t 17), none⟩
  .done
  .nope)
  .nope)
  .nope)
  (.fork ⟨(some 6), .alloc 49 [(.I 0), (.B false)], none⟩
  (.fork ⟨(some 5), .alloc 49 [(.I 0), (.B false)], none⟩
  (.fork ⟨none, .st (some 2) (.t 5) (.t 15), none⟩
  (.fork ⟨none, .st (some 2) (.t 6) (.t 17), none⟩
  .done
  .nope)
  .nope)
  .nope)
  .nope))
  (.fork ⟨(some 5), .alloc 49 [(.I 0), (.B false)], none⟩
  (.fork ⟨(some 17), .call 39 [(.t 16)], none⟩
  (.fork ⟨(some 6), .alloc 49 [(.I 0), (.B false)], none⟩
  (.fork ⟨none, .st (some 2) (.t 5) (.t 15), none⟩
  (.fork ⟨none, .st (some 2) (.t 6) (.t 17), none⟩
  .done
  .nope)
  .nope)
  .nope)
  (.fork ⟨(some 6), .alloc 49 [(.I 0), (.B false)], none⟩
  (.fork ⟨(some 17), .call 39 [(.t 16)], none⟩
  (.fork ⟨none, .st (some 2) (.t 5) (.t 15), none⟩
  (.fork ⟨none, .st (some 2) (.t 6) (.t 17), none⟩
  .done
  .nope)
  .nope)
  .nope)
  .nope))
  (.fork ⟨(some 6), .alloc 49 [(.I 0), (.B false)], none⟩
  (.fork ⟨(some 17), .call 39 [(.t 16)], none⟩
  (.fork ⟨(some 5), .alloc 49 [(.I 0), (.B false)], none⟩
  (.fork ⟨none, .st (some 2) (.t 5) (.t 15), none⟩
  (.fork ⟨none, .st (some 2) (.t 6) (.t 17), none⟩
  .done
  .nope)
  .nope)
  .nope)
  (.fork ⟨(some 5), .alloc 49 [(.I 0), (.B false)], none⟩
  (.fork ⟨(some 17), .call 39 [(.t 16)], none⟩
  (.fork ⟨none, .st (some 2) (.t 5) (.t 15), none⟩
  (.fork ⟨none, .st (some 2) (.t 6) (.t 17), none⟩
  .done
  .nope)
  .nope)
  .nope)
  .nope))
  .nope)))
  (.fork ⟨(some 5), .alloc 49 [(.I 0), (.B false)], none⟩
  (.fork ⟨(some 16), .ld (some 5) (.t 4), none⟩
  (.fork ⟨(some 17), .call 39 [(.t 16)], none⟩
  (.fork ⟨(some 6), .alloc 49 [(.I 0), (.B false)], none⟩
  (.fork ⟨none, .st (some 2) (.t 5) (.t 15), none⟩
  (.fork ⟨none, .st (some 2) (.t 6) (.t 17), none⟩
  .done
  .nope)
  .nope)
  .nope)
  (.fork ⟨(some 6), .alloc 49 [(.I 0), (.B false)], none⟩
  (.fork ⟨(some 17), .call 39 [(.t 16)], none⟩
  (.fork ⟨none, .st (some 2) (.t 5) (.t 15), none⟩
  (.fork ⟨none, .st (some 2) (.t 6) (.t 17), none⟩
  .done
  .nope)
  .nope)
  .nope)
  .nope))
  (.fork ⟨(some 6), .alloc 49 [(.I 0), (.B false)], none⟩
  (.fork ⟨(some 16), .ld (some 5) (.t 4), none⟩
  (.fork ⟨(some 17), .call 39 [(.t 16)], none⟩
  (.fork ⟨none, .st (some 2) (.t 5) (.t 15), none⟩
  (.fork ⟨none, .st (some 2) (.t 6) (.t 17), none⟩
  .done
  .nope)
  .nope)
  .nope)
  .nope)
  .nope))
  (.fork ⟨(some 6), .alloc 49 [(.I 0), (.B false)], none⟩
  (.fork ⟨(some 16), .ld (some 5) (.t 4), none⟩
  (.fork ⟨(some 17), .call 39 [(.t 16)], none⟩
  (.fork ⟨(some 5), .alloc 49 [(.I 0), (.B false)], none⟩
  (.fork ⟨none, .st (some 2) (.t 5) (.t 15), none⟩
  (.fork ⟨none, .st (some 2) (.t 6) (.t 17), none⟩
  .done
  .nope)
  .nope)
  .nope)
  (.fork ⟨(some 5), .alloc 49 [(.I 0), (.B false)], none⟩
  (.fork ⟨(some 17), .call 39 [(.t 16)], none⟩
  (.fork ⟨none, .st (some 2) (.t 5) (.t 15), none⟩
  (.fork ⟨none, .st (some 2) (.t 6) (.t 17), none⟩
  .done
  .nope)
  .nope)
  .nope)
  .nope))
  (.fork ⟨(some 5), .alloc 49 [(.I 0), (.B false)], none⟩
  (.fork ⟨(some 16), .ld (some 5) (.t 4), none⟩
  (.fork ⟨(some 17), .call 39 [(.t 16)], none⟩
  (.fork ⟨none, .st (some 2) (.t 5) (.t 15), none⟩
  (.fork ⟨none, .st (some 2) (.t 6) (.t 17), none⟩
  .done
  .nope)
  .nope)
  .nope)
  .nope)
  .nope))
  .nope)))
  (.fork ⟨(some 16), .ld (some 5) (.t 4), none⟩
  (.fork ⟨(some 15), .call 40 [(.t 14)], none⟩
  (.fork ⟨(some 17), .call 39 [(.t 16)], none⟩
  (.fork ⟨(some 5), .alloc 49 [(.I 0), (.B false)], none⟩
  (.fork ⟨(some 6), .alloc 49 [(.I 0), (.B false)], none⟩
  (.fork ⟨none, .st (some 2) (.t 5) (.t 15), none⟩
  (.fork ⟨none, .st (some 2) (.t 6) (.t 17), none⟩
  .done
  .nope)
  .nope)
  .nope)
  (.fork ⟨(some 6), .alloc 49 [(.I 0), (.B false)], none⟩
  (.fork ⟨(some 5), .alloc 49 [(.I 0), (.B false)], none⟩
  (.fork ⟨none, .st (some 2) (.t 5) (.t 15), none⟩
  (.fork ⟨none, .st (some 2) (.t 6) (.t 17), none⟩
  .done
  .nope)
  .nope)
  .nope)
  .nope))
  (.fork ⟨(some 5), .alloc 49 [(.I 0), (.B false)], none⟩
  (.fork ⟨(some 17), .call 39 [(.t 16)], none⟩
  (.fork ⟨(some 6), .alloc 49 [(.I 0), (.B false)], none⟩
  (.fork ⟨none, .st (some 2) (.t 5) (.t 15), none⟩
  (.fork ⟨none, .st (some 2) (.t 6) (.t 17), none⟩
  .done
  .nope)
  .nope)
  .nope)
  (.fork ⟨(some 6), .alloc 49 [(.I 0), (.B false)], none⟩
  (.fork ⟨(some 17), .call 39 [(.t 16)], none⟩
  (.fork ⟨none, .st (some 2) (.t 5) (.t 15), none⟩
  (.fork ⟨none, .st (some 2) (.t 6) (.t 17), none⟩
  .done
  .nope)
  .nope)
  .nope)
  .nope))
  (.fork ⟨(some 6), .alloc 49 [(.I 0), (.B false)], none⟩
  (.fork ⟨(some 17), .call 39 [(.t 16)], none⟩
  (.fork ⟨(some 5), .alloc 49 [(.I 0), (.B false)], none⟩
  (.fork ⟨none, .st (some 2) (.t 5) (.t 15), none⟩
  (.fork ⟨none, .st (some 2) (.t 6) (.t 17), none⟩
  .done
  .nope)
  .nope)
  .nope)
  (.fork ⟨(some 5), .alloc 49 [(.I 0), (.B false)], none⟩
  (.fork ⟨(some 17), .call 39 [(.t 16)], none⟩
  (.fork ⟨none, .st (some 2) (.t 5) (.t 15), none⟩
  (.fork ⟨none, .st (some 2) (.t 6) (.t 17), none⟩
  .done
  .nope)
  .nope)
  .nope)
  .nope))
  .nope)))
  (.fork ⟨(some 5), .alloc 49 [(.I 0), (.B false)], none⟩
  (.fork ⟨(some 15), .call 40 [(.t 14)], none⟩
  (.fork ⟨(some 17), .call 39 [(.t 16)], none⟩
  (.fork ⟨(some 6), .alloc 49 [(.I 0), (.B false)], none⟩
  (.fork ⟨none, .st (some 2) (.t 5) (.t 15), none⟩
  (.fork ⟨none, .st (some 2) (.t 6) (.t 17), none⟩
  .done
  .nope)
  .nope)
  .nope)
  (.fork ⟨(some 6), .alloc 49 [(.I 0), (.B false)], none⟩
  (.fork ⟨(some 17), .call 39 [(.t 16)], none⟩
  (.fork ⟨none, .st (some 2) (.t 5) (.t 15), none⟩
  (.fork ⟨none, .st (some 2) (.t 6) (.t 17), none⟩
  .done
  .nope)
  .nope)
  .nope)
  .nope))
  (.fork ⟨(some 6), .alloc 49 [(.I 0), (.B false)], none⟩
  (.fork ⟨(some 15), .call 40 [(.t 14)], none⟩
  (.fork ⟨(some 17), .call 39 [(.t 16)], none⟩
  (.fork ⟨none, .st (some 2) (.t 5) (.t 15), none⟩
  (.fork ⟨none, .st (some 2) (.t 6) (.t 17), none⟩
  .done
  .nope)
  .nope)
  .nope)
  .nope)
  .nope))
  (.fork ⟨(some 6), .alloc 49 [(.I 0), (.B false)], none⟩
  (.fork ⟨(some 15), .call 40 [(.t 14)], none⟩
  (.fork ⟨(some 17), .call 39 [(.t 16)], none⟩
  (.fork ⟨(some 5), .alloc 49 [(.I 0), (.B false)], none⟩
  (.fork ⟨none, .st (some 2) (.t 5) (.t 15), none⟩
  (.fork ⟨none, .st (some 2) (.t 6) (.t 17), none⟩
  .done
  .nope)
  .nope)
  .nope)
  (.fork ⟨(some 5), .alloc 49 [(.I 0), (.B false)], none⟩
  (.fork ⟨(some 17), .call 39 [(.t 16)], none⟩
  (.fork ⟨none, .st (some 2) (.t 5) (.t 15), none⟩
  (.fork ⟨none, .st (some 2) (.t 6) (.t 17), none⟩
  .done
  .nope)
  .nope)
  .nope)
  .nope))
  (.fork ⟨(some 5), .alloc 49 [(.I 0), (.B false)], none⟩
  (.fork ⟨(some 15), .call 40 [(.t 14)], none⟩
  (.fork ⟨(some 17), .call 39 [(.t 16)], none⟩
  (.fork ⟨none, .st (some 2) (.t 5) (.t 15), none⟩
  (.fork ⟨none, .st (some 2) (.t 6) (.t 17), none⟩
  .done
  .nope)
  .nope)
  .nope)
  .nope)
  .nope))
  .nope)))
  (.fork ⟨(some 5), .alloc 49 [(.I 0), (.B false)], none⟩
  (.fork ⟨(some 15), .call 40 [(.t 14)], none⟩
  (.fork ⟨(some 16), .ld (some 5) (.t 4), none⟩
  (.fork ⟨(some 17), .call 39 [(.t 16)], none⟩
  (.fork ⟨(some 6), .alloc 49 [(.I 0), (.B false)], none⟩
  (.fork ⟨none, .st (some 2) (.t 5) (.t 15), none⟩
  (.fork ⟨none, .st (some 2) (.t 6) (.t 17), none⟩
  .done
  .nope)
  .nope)
  .nope)
  (.fork ⟨(some 6), .alloc 49 [(.I 0), (.B false)], none⟩
  (.fork ⟨(some 17), .call 39 [(.t 16)], none⟩
  (.fork ⟨none, .st (some 2) (.t 5) (.t 15), none⟩
  (.fork ⟨none, .st (some 2) (.t 6) (.t 17), none⟩
  .done
  .nope)
  .nope)
  .nope)
  .nope))
  (.fork ⟨(some 6), .alloc 49 [(.I 0), (.B false)], none⟩
  (.fork ⟨(some 16), .ld (some 5) (.t 4), none⟩
  (.fork ⟨(some 17), .call 39 [(.t 16)], none⟩
  (.fork ⟨none, .st (some 2) (.t 5) (.t 15), none⟩
  (.fork ⟨none, .st (some 2) (.t 6) (.t 17), none⟩
  .done
  .nope)
  .nope)
  .nope)
  .nope)
  .nope))
  (.fork ⟨(some 16), .ld (some 5) (.t 4), none⟩
  (.fork ⟨(some 15), .call 40 [(.t 14)], none⟩
  (.fork ⟨(some 17), .call 39 [(.t 16)], none⟩
  (.fork ⟨(some 6), .alloc 49 [(.I 0), (.B false)], none⟩
  (.fork ⟨none, .st (some 2) (.t 5) (.t 15), none⟩
  (.fork ⟨none, .st (some 2) (.t 6) (.t 17), none⟩
  .done
  .nope)
  .nope)
  .nope)
  (.fork ⟨(some 6), .alloc 49 [(.I 0), (.B false)], none⟩
  (.fork ⟨(some 17), .call 39 [(.t 16)], none⟩
  (.fork ⟨none, .st (some 2) (.t 5) (.t 15), none⟩
  (.fork ⟨none, .st (some 2) (.t 6) (.t 17), none⟩
  .done
  .nope)
  .nope)
  .nope)
  .nope))
  (.fork ⟨(some 6), .alloc 49 [(.I 0), (.B false)], none⟩
  (.fork ⟨(some 15), .call 40 [(.t 14)], none⟩
  (.fork ⟨(some 17), .call 39 [(.t 16)], none⟩
  (.fork ⟨none, .st (some 2) (.t 5) (.t 15), none⟩
  (.fork ⟨none, .st (some 2) (.t 6) (.t 17), none⟩
  .done
  .nope)
  .nope)
  .nope)
  .nope)
  .nope))
  (.fork ⟨(some 6), .alloc 49 [(.I 0), (.B false)], none⟩
  (.fork ⟨(some 15), .call 40 [(.t 14)], none⟩
  (.fork ⟨(some 16), .ld (some 5) (.t 4), none⟩
  (.fork ⟨(some 17), .call 39 [(.t 16)], none⟩
  (.fork ⟨none, .st (some 2) (.t 5) (.t 15), none⟩
  (.fork ⟨none, .st (some 2) (.t 6) (.t 17), none⟩
  .done
  .nope)
  .nope)
  .nope)
  .nope)
  (.fork ⟨(some 16), .ld (some 5) (.t 4), none⟩
  (.fork ⟨(some 15), .call 40 [(.t 14)], none⟩
  (.fork ⟨(some 17), .call 39 [(.t 16)], none⟩
  (.fork ⟨none, .st (some 2) (.t 5) (.t 15), none⟩
  (.fork ⟨none, .st (some 2) (.t 6) (.t 17), none⟩
  .done
  .nope)
  .nope)
  .nope)
  .nope)
  .nope))
  .nope)))
  (.fork ⟨(some 6), .alloc 49 [(.I 0), (.B false)], none⟩
  (.fork ⟨(some 15), .call 40 [(.t 14)], none⟩
  (.fork ⟨(some 16), .ld (some 5) (.t 4), none⟩
  (.fork ⟨(some 17), .call 39 [(.t 16)], none⟩
  (.fork ⟨(some 5), .alloc 49 [(.I 0), (.B false)], none⟩
  (.fork ⟨none, .st (some 2) (.t 5) (.t 15), none⟩
  (.fork ⟨none, .st (some 2) (.t 6) (.t 17), none⟩
  .done
  .nope)
  .nope)
  .nope)
  (.fork ⟨(some 5), .alloc 49 [(.I 0), (.B false)], none⟩
  (.fork ⟨(some 17), .call 39 [(.t 16)], none⟩
  (.fork ⟨none, .st (some 2) (.t 5) (.t 15), none⟩
  (.fork ⟨none, .st (some 2) (.t 6) (.t 17), none⟩
  .done
  .nope)
  .nope)
  .nope)
  .nope))
  (.fork ⟨(some 5), .alloc 49 [(.I 0), (.B false)], none⟩
  (.fork ⟨(some 16), .ld (some 5) (.t 4), none⟩
  (.fork ⟨(some 17), .call 39 [(.t 16)], none⟩
  (.fork ⟨none, .st (some 2) (.t 5) (.t 15), none⟩
  (.fork ⟨none, .st (some 2) (.t 6) (.t 17), none⟩
  .done
  .nope)
  .nope)
  .nope)
  .nope)
  .nope))
  (.fork ⟨(some 16), .ld (some 5) (.t 4), none⟩
  (.fork ⟨(some 15), .call 40 [(.t 14)], none⟩
  (.fork ⟨(some 17), .call 39 [(.t 16)], none⟩
  (.fork ⟨(some 5), .alloc 49 [(.I 0), (.B false)], none⟩
  (.fork ⟨none, .st (some 2) (.t 5) (.t 15), none⟩
  (.fork ⟨none, .st (some 2) (.t 6) (.t 17), none⟩
  .done
  .nope)
  .nope)
  .nope)
  (.fork ⟨(some 5), .alloc 49 [(.I 0), (.B false)], none⟩
  (.fork ⟨(some 17), .call 39 [(.t 16)], none⟩
  (.fork ⟨none, .st (some 2) (.t 5) (.t 15), none⟩
  (.fork ⟨none, .st (some 2) (.t 6) (.t 17), none⟩
  .done
  .nope)
  .nope)
  .nope)
  .nope))
  (.fork ⟨(some 5), .alloc 49 [(.I 0), (.B false)], none⟩
  (.fork ⟨(some 15), .call 40 [(.t 14)], none⟩
  (.fork ⟨(some 17), .call 39 [(.t 16)], none⟩
  (.fork ⟨none, .st (some 2) (.t 5) (.t 15), none⟩
  (.fork ⟨none, .st (some 2) (.t 6) (.t 17), none⟩
  .done
  .nope)
  .nope)
  .nope)
  .nope)
  .nope))
  (.fork ⟨(some 5), .alloc 49 [(.I 0), (.B false)], none⟩
  (.fork ⟨(some 15), .call 40 [(.t 14)], none⟩
  (.fork ⟨(some 16), .ld (some 5) (.t 4), none⟩
  (.fork ⟨(some 17), .call 39 [(.t 16)], none⟩
  (.fork ⟨none, .st (some 2) (.t 5) (.t 15), none⟩
  (.fork ⟨none, .st (some 2) (.t 6) (.t 17), none⟩
  .done
  .nope)
  .nope)
  .nope)
  .nope)
  (.fork ⟨(some 16), .ld (some 5) (.t 4), none⟩
  (.fork ⟨(some 15), .call 40 [(.t 14)], none⟩
  (.fork ⟨(some 17), .call 39 [(.t 16)], none⟩
  (.fork ⟨none, .st (some 2) (.t 5) (.t 15), none⟩
  (.fork ⟨none, .st (some 2) (.t 6) (.t 17), none⟩
  .done
  .nope)
  .nope)
  .nope)
  .nope)
  .nope))
  .nope)))
  .nope))))
  (.fork ⟨(some 16), .ld (some 5) (.t 4), none⟩
  (.fork ⟨(some 14), .ld (some 5) (.t 4), none⟩
  (.fork ⟨(some 15), .call 40 [(.t 14)], none⟩
  (.fork ⟨(some 17), .call 39 [(.t 16)], none⟩
  (.fork ⟨(some 5), .alloc 49 [(.I 0), (.B false)], none⟩
  (.fork ⟨(some 6), .alloc 49 [(.I 0), (.B false)], none⟩
  (.fork ⟨none, .st (some 2) (.t 5) (.t 15), none⟩
  (.fork ⟨none, .st (some 2) (.t 6) (.t 17), none⟩
  .done
  .nope)
  .nope)
  .nope)
  (.fork ⟨(some 6), .alloc 49 [(.I 0), (.B false)], none⟩
  (.fork ⟨(some 5), .alloc 49 [(.I 0), (.B false)], none⟩
  (.fork ⟨none, .st (some 2) (.t 5) (.t 15), none⟩
  (.fork ⟨none, .st (some 2) (.t 6) (.t 17), none⟩
  .done
  .nope)
  .nope)
  .nope)
  .nope))
  (.fork ⟨(some 5), .alloc 49 [(.I 0), (.B false)], none⟩
  (.fork ⟨(some 17), .call 39 [(.t 16)], none⟩
  (.fork ⟨(some 6), .alloc 49 [(.I 0), (.B false)], none⟩
  (.fork ⟨none, .st (some 2) (.t 5) (.t 15), none⟩
  (.fork ⟨none, .st (some 2) (.t 6) (.t 17), none⟩
  .done
  .nope)
  .nope)
  .nope)
  (.fork ⟨(some 6), .alloc 49 [(.I 0), (.B false)], none⟩
  (.fork ⟨(some 17), .call 39 [(.t 16)], none⟩
  (.fork ⟨none, .st (some 2) (.t 5) (.t 15), none⟩
  (.fork ⟨none, .st (some 2) (.t 6) (.t 17), none⟩
  .done
  .nope)
  .nope)
  .nope)
  .nope))
  (.fork ⟨(some 6), .alloc 49 [(.I 0), (.B false)], none⟩
  (.fork ⟨(some 17), .call 39 [(.t 16)], none⟩
  (.fork ⟨(some 5), .alloc 49 [(.I 0), (.B false)], none⟩
  (.fork ⟨none, .st (some 2) (.t 5) (.t 15), none⟩
  (.fork ⟨none, .st (some 2) (.t 6) (.t 17), none⟩
  .done
  .nope)
  .nope)
  .nope)
  (.fork ⟨(some 5), .alloc 49 [(.I 0), (.B false)], none⟩
  (.fork ⟨(some 17), .call 39 [(.t 16)], none⟩
  (.fork ⟨none, .st (some 2) (.t 5) (.t 15), none⟩
  (.fork ⟨none, .st (some 2) (.t 6) (.t 17), none⟩
  .done
  .nope)
  .nope)
  .nope)
  .nope))
  .nope)))
  (.fork ⟨(some 5), .alloc 49 [(.I 0), (.B false)], none⟩
  (.fork ⟨(some 15), .call 40 [(.t 14)], none⟩
  (.fork ⟨(some 17), .call 39 [(.t 16)], none⟩
  (.fork ⟨(some 6), .alloc 49 [(.I 0), (.B false)], none⟩
  (.fork ⟨none, .st (some 2) (.t 5) (.t 15), none⟩
  (.fork ⟨none, .st (some 2) (.t 6) (.t 17), none⟩
  .done
  .nope)
  .nope)
  .nope)
  (.fork ⟨(some 6), .alloc 49 [(.I 0), (.B false)], none⟩
  (.fork ⟨(some 17), .call 39 [(.t 16)], none⟩
  (.fork ⟨none, .st (some 2) (.t 5) (.t 15), none⟩
  (.fork ⟨none, .st (some 2) (.t 6) (.t 17), none⟩
  .done
  .nope)
  .nope)
  .nope)
  .nope))
  (.fork ⟨(some 6), .alloc 49 [(.I 0), (.B false)], none⟩
  (.fork ⟨(some 15), .call 40 [(.t 14)], none⟩
  (.fork ⟨(some 17), .call 39 [(.t 16)], none⟩
  (.fork ⟨none, .st (some 2) (.t 5) (.t 15), none⟩
  (.fork ⟨none, .st (some 2) (.t 6) (.t 17), none⟩
  .done
  .nope)
  .nope)
  .nope)
  .nope)
  .nope))
  (.fork ⟨(some 6), .alloc 49 [(.I 0), (.B false)], none⟩
  (.fork ⟨(some 15), .call 40 [(.t 14)], none⟩
  (.fork ⟨(some 17), .call 39 [(.t 16)], none⟩
  (.fork ⟨(some 5), .alloc 49 [(.I 0), (.B false)], none⟩
  (.fork ⟨none, .st (some 2) (.t 5) (.t 15), none⟩
  (.fork ⟨none, .st (some 2) (.t 6) (.t 17), none⟩
  .done
  .nope)
  .nope)
  .nope)
  (.fork ⟨(some 5), .alloc 49 [(.I 0), (.B false)], none⟩
  (.fork ⟨(some 17), .call 39 [(.t 16)], none⟩
  (.fork ⟨none, .st (some 2) (.t 5) (.t 15), none⟩
  (.fork ⟨none, .st (some 2) (.t 6) (.t 17), none⟩
  .done
  .nope)
  .nope)
  .nope)
  .nope))
  (.fork ⟨(some 5), .alloc 49 [(.I 0), (.B false)], none⟩
  (.fork ⟨(some 15), .call 40 [(.t 14)], none⟩
  (.fork ⟨(some 17), .call 39 [(.t 16)], none⟩
  (.fork ⟨none, .st (some 2) (.t 5) (.t 15), none⟩
  (.fork ⟨none, .st (some 2) (.t 6) (.t 17), none⟩
  .done
  .nope)
  .nope)
  .nope)
  .nope)
  .nope))
  .nope)))
  (.fork ⟨(some 5), .alloc 49 [(.I 0), (.B false)], none⟩
  (.fork ⟨(some 14), .ld (some 5) (.t 4), none⟩
  (.fork ⟨(some 15), .call 40 [(.t 14)], none⟩
  (.fork ⟨(some 17), .call 39 [(.t 16)], none⟩
  (.fork ⟨(some 6), .alloc 49 [(.I 0), (.B false)], none⟩
  (.fork ⟨none, .st (some 2) (.t 5) (.t 15), none⟩
  (.fork ⟨none, .st (some 2) (.t 6) (.t 17), none⟩
  .done
  .nope)
  .nope)
  .nope)
  (.fork ⟨(some 6), .alloc 49 [(.I 0), (.B false)], none⟩
  (.fork ⟨(some 17), .call 39 [(.t 16)], none⟩
  (.fork ⟨none, .st (some 2) (.t 5) (.t 15), none⟩
  (.fork ⟨none, .st (some 2) (.t 6) (.t 17), none⟩
  .done
  .nope)
  .nope)
  .nope)
  .nope))
  (.fork ⟨(some 6), .alloc 49 [(.I 0), (.B false)], none⟩
  (.fork ⟨(some 15), .call 40 [(.t 14)], none⟩
  (.fork ⟨(some 17), .call 39 [(.t 16)], none⟩
  (.fork ⟨none, .st (some 2) (.t 5) (.t 15), none⟩
  (.fork ⟨none, .st (some 2) (.t 6) (.t 17), none⟩
  .done
  .nope)
  .nope)
  .nope)
  .nope)
  .nope))
  (.fork ⟨(some 6), .alloc 49 [(.I 0), (.B false)], none⟩
  (.fork ⟨(some 14), .ld (some 5) (.t 4), none⟩
  (.fork ⟨(some 15), .call 40 [(.t 14)], none⟩
  (.fork ⟨(some 17), .call 39 [(.t 16)], none⟩
  (.fork ⟨none, .st (some 2) (.t 5) (.t 15), none⟩
  (.fork ⟨none, .st (some 2) (.t 6) (.t 17), none⟩
  .done
  .nope)
  .nope)
  .nope)
  .nope)
  .nope)
  .nope))
  (.fork ⟨(some 6), .alloc 49 [(.I 0), (.B false)], none⟩
  (.fork ⟨(some 14), .ld (some 5) (.t 4), none⟩
  (.fork ⟨(some 15), .call 40 [(.t 14)], none⟩
  (.fork ⟨(some 17), .call 39 [(.t 16)], none⟩
  (.fork ⟨(some 5), .alloc 49 [(.I 0), (.B false)], none⟩
  (.fork ⟨none, .st (some 2) (.t 5) (.t 15), none⟩
  (.fork ⟨none, .st (some 2) (.t 6) (.t 17), none⟩
  .done
  .nope)
  .nope)
  .nope)
  (.fork ⟨(some 5), .alloc 49 [(.I 0), (.B false)], none⟩
  (.fork ⟨(some 17), .call 39 [(.t 16)], none⟩
  (.fork ⟨none, .st (some 2) (.t 5) (.t 15), none⟩
  (.fork ⟨none, .st (some 2) (.t 6) (.t 17), none⟩
  .done
  .nope)
  .nope)
  .nope)
  .nope))
  (.fork ⟨(some 5), .alloc 49 [(.I 0), (.B false)], none⟩
  (.fork ⟨(some 15), .call 40 [(.t 14)], none⟩
  (.fork ⟨(some 17), .call 39 [(.t 16)], none⟩
  (.fork ⟨none, .st (some 2) (.t 5) (.t 15), none⟩
  (.fork ⟨none, .st (some 2) (.t 6) (.t 17), none⟩
  .done
  .nope)
  .nope)
  .nope)
  .nope)
  .nope))
  (.fork ⟨(some 5), .alloc 49 [(.I 0), (.B false)], none⟩
  (.fork ⟨(some 14), .ld (some 5) (.t 4), none⟩
  (.fork ⟨(some 15), .call 40 [(.t 14)], none⟩
  (.fork ⟨(some 17), .call 39 [(.t 16)], none⟩
  (.fork ⟨none, .st (some 2) (.t 5) (.t 15), none⟩
  (.fork ⟨none, .st (some 2) (.t 6) (.t 17), none⟩
  .done
  .nope)
  .nope)
  .nope)
  .nope)
  .nope)
  .nope))
  .nope)))
  (.fork ⟨(some 5), .alloc 49 [(.I 0), (.B false)], none⟩
  (.fork ⟨(some 14), .ld (some 5) (.t 4), none⟩
  (.fork ⟨(some 15), .call 40 [(.t 14)], none⟩
  (.fork ⟨(some 16), .ld (some 5) (.t 4), none⟩
  (.fork ⟨(some 17), .call 39 [(.t 16)], none⟩
  (.fork ⟨(some 6), .alloc 49 [(.I 0), (.B false)], none⟩
  (.fork ⟨none, .st (some 2) (.t 5) (.t 15), none⟩
  (.fork ⟨none, .st (some 2) (.t 6) (.t 17), none⟩
  .done
  .nope)
  .nope)
  .nope)
  (.fork ⟨(some 6), .alloc 49 [(.I 0), (.B false)], none⟩
  (.fork ⟨(some 17), .call 39 [(.t 16)], none⟩
  (.fork ⟨none, .st (some 2) (.t 5) (.t 15), none⟩
  (.fork ⟨none, .st (some 2) (.t 6) (.t 17), none⟩
  .done
  .nope)
  .nope)
  .nope)
  .nope))
  (.fork ⟨(some 6), .alloc 49 [(.I 0), (.B false)], none⟩
  (.fork ⟨(some 16), .ld (some 5) (.t 4), none⟩
  (.fork ⟨(some 17), .call 39 [(.t 16)], none⟩
  (.fork ⟨none, .st (some 2) (.t 5) (.t 15), none⟩
  (.fork ⟨none, .st (some 2) (.t 6) (.t 17), none⟩
  .done
  .nope)
  .nope)
  .nope)
  .nope)
  .nope))
  (.fork ⟨(some 16), .ld (some 5) (.t 4), none⟩
  (.fork ⟨(some 15), .call 40 [(.t 14)], none⟩
  (.fork ⟨(some 17), .call 39 [(.t 16)], none⟩
  (.fork ⟨(some 6), .alloc 49 [(.I 0), (.B false)], none⟩
  (.fork ⟨none, .st (some 2) (.t 5) (.t 15), none⟩
  (.fork ⟨none, .st (some 2) (.t 6) (.t 17), none⟩
  .done
  .nope)
  .nope)
  .nope)
  (.fork ⟨(some 6), .alloc 49 [(.I 0), (.B false)], none⟩
  (.fork ⟨(some 17), .call 39 [(.t 16)], none⟩
  (.fork ⟨none, .st (some 2) (.t 5) (.t 15), none⟩
  (.fork ⟨none, .st (some 2) (.t 6) (.t 17), none⟩
  .done
  .nope)
  .nope)
  .nope)
  .nope))
  (.fork ⟨(some 6), .alloc 49 [(.I 0), (.B false)], none⟩
  (.fork ⟨(some 15), .call 40 [(.t 14)], none⟩
  (.fork ⟨(some 17), .call 39 [(.t 16)], none⟩
  (.fork ⟨none, .st (some 2) (.t 5) (.t 15), none⟩
  (.fork ⟨none, .st (some 2) (.t 6) (.t 17), none⟩
  .done
  .nope)
  .nope)
  .nope)
  .nope)
  .nope))
  (.fork ⟨(some 6), .alloc 49 [(.I 0), (.B false)], none⟩
  (.fork ⟨(some 15), .call 40 [(.t 14)], none⟩
  (.fork ⟨(some 16), .ld (some 5) (.t 4), none⟩
  (.fork ⟨(some 17), .call 39 [(.t 16)], none⟩
  (.fork ⟨none, .st (some 2) (.t 5) (.t 15), none⟩
  (.fork ⟨none, .st (some 2) (.t 6) (.t 17), none⟩
  .done
  .nope)
  .nope)
  .nope)
  .nope)
  (.fork ⟨(some 16), .ld (some 5) (.t 4), none⟩
  (.fork ⟨(some 15), .call 40 [(.t 14)], none⟩
  (.fork ⟨(some 17), .call 39 [(.t 16)], none⟩
  (.fork ⟨none, .st (some 2) (.t 5) (.t 15), none⟩
  (.fork ⟨none, .st (some 2) (.t 6) (.t 17), none⟩
  .done
  .nope)
  .nope)
  .nope)
  .nope)
  .nope))
  .nope)))
  (.fork ⟨(some 16), .ld (some 5) (.t 4), none⟩
  (.fork ⟨(some 14), .ld (some 5) (.t 4), none⟩
  (.fork ⟨(some 15), .call 40 [(.t 14)], none⟩
  (.fork ⟨(some 17), .call 39 [(.t 16)], none⟩
  (.fork ⟨(some 6), .alloc 49 [(.I 0), (.B false)], none⟩
  (.fork ⟨none, .st (some 2) (.t 5) (.t 15), none⟩
  (.fork ⟨none, .st (some 2) (.t 6) (.t 17), none⟩
  .done
  .nope)
  .nope)
  .nope)
  (.fork ⟨(some 6), .alloc 49 [(.I 0), (.B false)], none⟩
  (.fork ⟨(some 17), .call 39 [(.t 16)], none⟩
  (.fork ⟨none, .st (some 2) (.t 5) (.t 15), none⟩
  (.fork ⟨none, .st (some 2) (.t 6) (.t 17), none⟩
  .done
  .nope)
  .nope)
  .nope)
  .nope))
  (.fork ⟨(some 6), .alloc 49 [(.I 0), (.B false)], none⟩
  (.fork ⟨(some 15), .call 40 [(.t 14)], none⟩
  (.fork ⟨(some 17), .call 39 [(.t 16)], none⟩
  (.fork ⟨none, .st (some 2) (.t 5) (.t 15), none⟩
  (.fork ⟨none, .st (some 2) (.t 6) (.t 17), none⟩
  .done
  .nope)
  .nope)
  .nope)
  .nope)
  .nope))
  (.fork ⟨(some 6), .alloc 49 [(.I 0), (.B false)], none⟩
  (.fork ⟨(some 14), .ld (some 5) (.t 4), none⟩
  (.fork ⟨(some 15), .call 40 [(.t 14)], none⟩
  (.fork ⟨(some 17), .call 39 [(.t 16)], none⟩
  (.fork ⟨none, .st (some 2) (.t 5) (.t 15), none⟩
  (.fork ⟨none, .st (some 2) (.t 6) (.t 17), none⟩
  .done
  .nope)
  .nope)
  .nope)
  .nope)
  .nope)
  .nope))
  (.fork ⟨(some 6), .alloc 49 [(.I 0), (.B false)], none⟩
  (.fork ⟨(some 14), .ld (some 5) (.t 4), none⟩
  (.fork ⟨(some 15), .call 40 [(.t 14)], none⟩
  (.fork ⟨(some 16), .ld (some 5) (.t 4), none⟩
  (.fork ⟨(some 17), .call 39 [(.t 16)], none⟩
  (.fork ⟨none, .st (some 2) (.t 5) (.t 15), none⟩
  (.fork ⟨none, .st (some 2) (.t 6) (.t 17), none⟩
  .done
  .nope)
  .nope)
  .nope)
  .nope)
  (.fork ⟨(some 16), .ld (some 5) (.t 4), none⟩
  (.fork ⟨(some 15), .call 40 [(.t 14)], none⟩
  (.fork ⟨(some 17), .call 39 [(.t 16)], none⟩
  (.fork ⟨none, .st (some 2) (.t 5) (.t 15), none⟩
  (.fork ⟨none, .st (some 2) (.t 6) (.t 17), none⟩
  .done
  .nope)
  .nope)
  .nope)
  .nope)
  .nope))
  (.fork ⟨(some 16), .ld (some 5) (.t 4), none⟩
  (.fork ⟨(some 14), .ld (some 5) (.t 4), none⟩
  (.fork ⟨(some 15), .call 40 [(.t 14)], none⟩
  (.fork ⟨(some 17), .call 39 [(.t 16)], none⟩
  (.fork ⟨none, .st (some 2) (.t 5) (.t 15), none⟩
  (.fork ⟨none, .st (some 2) (.t 6) (.t 17), none⟩
  .done
  .nope)
  .nope)
  .nope)
  .nope)
  .nope)
  .nope))
  .nope)))
  (.fork ⟨(some 6), .alloc 49 [(.I 0), (.B false)], none⟩
  (.fork ⟨(some 14), .ld (some 5) (.t 4), none⟩
  (.fork ⟨(some 15), .call 40 [(.t 14)], none⟩
  (.fork ⟨(some 16), .ld (some 5) (.t 4), none⟩
  (.fork ⟨(some 17), .call 39 [(.t 16)], none⟩
  (.fork ⟨(some 5), .alloc 49 [(.I 0), (.B false)], none⟩
  (.fork ⟨none, .st (some 2) (.t 5) (.t 15), none⟩
  (.fork ⟨none, .st (some 2) (.t 6) (.t 17), none⟩
  .done
  .nope)
  .nope)
  .nope)
  (.fork ⟨(some 5), .alloc 49 [(.I 0), (.B false)], none⟩
  (.fork ⟨(some 17), .call 39 [(.t 16)], none⟩
  (.fork ⟨none, .st (some 2) (.t 5) (.t 15), none⟩
  (.fork ⟨none, .st (some 2) (.t 6) (.t 17), none⟩
  .done
  .nope)
  .nope)
  .nope)
  .nope))
  (.fork ⟨(some 5), .alloc 49 [(.I 0), (.B false)], none⟩
  (.fork ⟨(some 16), .ld (some 5) (.t 4), none⟩
  (.fork ⟨(some 17), .call 39 [(.t 16)], none⟩
  (.fork ⟨none, .st (some 2) (.t 5) (.t 15), none⟩
  (.fork ⟨none, .st (some 2) (.t 6) (.t 17), none⟩
  .done
  .nope)
  .nope)
  .nope)
  .nope)
  .nope))
  (.fork ⟨(some 16), .ld (some 5) (.t 4), none⟩
  (.fork ⟨(some 15), .call 40 [(.t 14)], none⟩
  (.fork ⟨(some 17), .call 39 [(.t 16)], none⟩
  (.fork ⟨(some 5), .alloc 49 [(.I 0), (.B false)], none⟩
  (.fork ⟨none, .st (some 2) (.t 5) (.t 15), none⟩
  (.fork ⟨none, .st (some 2) (.t 6) (.t 17), none⟩
  .done
  .nope)
  .nope)
  .nope)
  (.fork ⟨(some 5), .alloc 49 [(.I 0), (.B false)], none⟩
  (.fork ⟨(some 17), .call 39 [(.t 16)], none⟩
  (.fork ⟨none, .st (some 2) (.t 5) (.t 15), none⟩
  (.fork ⟨none, .st (some 2) (.t 6) (.t 17), none⟩
  .done
  .nope)
  .nope)
  .nope)
  .nope))
  (.fork ⟨(some 5), .alloc 49 [(.I 0), (.B false)], none⟩
  (.fork ⟨(some 15), .call 40 [(.t 14)], none⟩
  (.fork ⟨(some 17), .call 39 [(.t 16)], none⟩
  (.fork ⟨none, .st (some 2) (.t 5) (.t 15), none⟩
  (.fork ⟨none, .st (some 2) (.t 6) (.t 17), none⟩
  .done
  .nope)
  .nope)
  .nope)
  .nope)
  .nope))
  (.fork ⟨(some 5), .alloc 49 [(.I 0), (.B false)], none⟩
  (.fork ⟨(some 15), .call 40 [(.t 14)], none⟩
  (.fork ⟨(some 16), .ld (some 5) (.t 4), none⟩
  (.fork ⟨(some 17), .call 39 [(.t 16)], none⟩
  (.fork ⟨none, .st (some 2) (.t 5) (.t 15), none⟩
  (.fork ⟨none, .st (some 2) (.t 6) (.t 17), none⟩
  .done
  .nope)
  .nope)
  .nope)
  .nope)
  (.fork ⟨(some 16), .ld (some 5) (.t 4), none⟩
  (.fork ⟨(some 15), .call 40 [(.t 14)], none⟩
  (.fork ⟨(some 17), .call 39 [(.t 16)], none⟩
  (.fork ⟨none, .st (some 2) (.t 5) (.t 15), none⟩
  (.fork ⟨none, .st (some 2) (.t 6) (.t 17), none⟩
  .done
  .nope)
  .nope)
  .nope)
  .nope)
  .nope))
  .nope)))
  (.fork ⟨(some 16), .ld (some 5) (.t 4), none⟩
  (.fork ⟨(some 14), .ld (some 5) (.t 4), none⟩
  (.fork ⟨(some 15), .call 40 [(.t 14)], none⟩
  (.fork ⟨(some 17), .call 39 [(.t 16)], none⟩
  (.fork ⟨(some 5), .alloc 49 [(.I 0), (.B false)], none⟩
  (.fork ⟨none, .st (some 2) (.t 5) (.t 15), none⟩
  (.fork ⟨none, .st (some 2) (.t 6) (.t 17), none⟩
  .done
  .nope)
  .nope)
  .nope)
  (.fork ⟨(some 5), .alloc 49 [(.I 0), (.B false)], none⟩
  (.fork ⟨(some 17), .call 39 [(.t 16)], none⟩
  (.fork ⟨none, .st (some 2) (.t 5) (.t 15), none⟩
  (.fork ⟨none, .st (some 2) (.t 6) (.t 17), none⟩
  .done
  .nope)
  .nope)
  .nope)
  .nope))
  (.fork ⟨(some 5), .alloc 49 [(.I 0), (.B false)], none⟩
  (.fork ⟨(some 15), .call 40 [(.t 14)], none⟩
  (.fork ⟨(some 17), .call 39 [(.t 16)], none⟩
  (.fork ⟨none, .st (some 2) (.t 5) (.t 15), none⟩
  (.fork ⟨none, .st (some 2) (.t 6) (.t 17), none⟩
  .done
  .nope)
  .nope)
  .nope)
  .nope)
  .nope))
  (.fork ⟨(some 5), .alloc 49 [(.I 0), (.B false)], none⟩
  (.fork ⟨(some 14), .ld (some 5) (.t 4), none⟩
  (.fork ⟨(some 15), .call 40 [(.t 14)], none⟩
  (.fork ⟨(some 17), .call 39 [(.t 16)], none⟩
  (.fork ⟨none, .st (some 2) (.t 5) (.t 15), none⟩
  (.fork ⟨none, .st (some 2) (.t 6) (.t 17), none⟩
  .done
  .nope)
  .nope)
  .nope)
  .nope)
  .nope)
  .nope))
  (.fork ⟨(some 5), .alloc 49 [(.I 0), (.B false)], none⟩
  (.fork ⟨(some 14), .ld (some 5) (.t 4), none⟩
  (.fork ⟨(some 15), .call 40 [(.t 14)], none⟩
  (.fork ⟨(some 16), .ld (some 5) (.t 4), none⟩
  (.fork ⟨(some 17), .call 39 [(.t 16)], none⟩
  (.fork ⟨none, .st (some 2) (.t 5) (.t 15), none⟩
  (.fork ⟨none, .st (some 2) (.t 6) (.t 17), none⟩
  .done
  .nope)
  .nope)
  .nope)
  .nope)
  (.fork ⟨(some 16), .ld (some 5) (.t 4), none⟩
  (.fork ⟨(some 15), .call 40 [(.t 14)], none⟩
  (.fork ⟨(some 17), .call 39 [(.t 16)], none⟩
  (.fork ⟨none, .st (some 2) (.t 5) (.t 15), none⟩
  (.fork ⟨none, .st (some 2) (.t 6) (.t 17), none⟩
  .done
  .nope)
  .nope)
  .nope)
  .nope)
  .nope))
  (.fork ⟨(some 16), .ld (some 5) (.t 4), none⟩
  (.fork ⟨(some 14), .ld (some 5) (.t 4), none⟩
  (.fork ⟨(some 15), .call 40 [(.t 14)], none⟩
  (.fork ⟨(some 17), .call 39 [(.t 16)], none⟩
  (.fork ⟨none, .st (some 2) (.t 5) (.t 15), none⟩
  (.fork ⟨none, .st (some 2) (.t 6) (.t 17), none⟩
  .done
  .nope)
  .nope)
  .nope)
  .nope)
  .nope)
  .nope))
  .nope)))
  .nope))))
abbrev c25_7 : AC := .regD [(⟨(some 18), .mv (.t 3), none⟩, [3]),
  (⟨(some 19), .bin .gtr (.t 18) (.k (.I 0)), none⟩, [18]),
  (⟨(some 20), .mv (.t 19), none⟩, [19]),
  (⟨(some 21), .fad 0 (.t 4), (some (20, true))⟩, [4, 20]),
  (⟨(some 22), .ld none (.t 21), (some (20, true))⟩, [21, 20]),
  (⟨(some 23), .mv (.t 0), (some (20, true))⟩, [0, 20]),
  (⟨(some 24), .mv (.t 3), (some (20, true))⟩, [3, 20]),
  (⟨(some 25), .bin .sub (.t 24) (.k (.I 1)), (some (20, true))⟩, [24, 20]),
  (⟨(some 26), .iad 5 (.t 23) (.t 25), (some (20, true))⟩, [23, 25, 20]),
  (⟨(some 27), .fad 0 (.t 26), (some (20, true))⟩, [26, 20]),
  (⟨(some 28), .ld none (.t 27), (some (20, true))⟩, [27, 20]),
  (⟨(some 29), .bin .leq (.t 22) (.t 28), (some (20, true))⟩, [22, 28, 20]),
  (⟨(some 30), .pick (.t 20) (.t 29) (.k (.B false)), none⟩, [20, 29]),
  (⟨(some 31), .mv (.t 30), none⟩, [30]),
  (⟨(some 32), .ld (some 2) (.t 5), (some (31, false))⟩, [5, 31]),
  (⟨(some 33), .ld (some 2) (.t 6), (some (31, false))⟩, [6, 31]),
  (⟨(some 34), .eqs false [false, true] (.t 32) (.t 33), (some (31, false))⟩, [32, 33, 31]),
  (⟨(some 35), .pick (.t 31) (.k (.B true)) (.t 34), none⟩, [31, 34]),
  (⟨(some 36), .mv (.t 35), none⟩, [35]),
  (⟨(some 37), .fad 1 (.t 5), (some (36, false))⟩, [5, 36]),
  (⟨(some 38), .ld none (.t 37), (some (36, false))⟩, [37, 36]),
  (⟨(some 39), .not (.t 38), (some (36, false))⟩, [38, 36]),
  (⟨(some 40), .mv (.t 39), (some (36, false))⟩, [39, 36]),
  (⟨(some 41), .fad 0 (.t 5), (some (40, true))⟩, [5, 40]),
  (⟨(some 42), .ld none (.t 41), (some (40, true))⟩, [41, 40]),
  (⟨(some 43), .bin .neq (.t 42) (.k (.I 0)), (some (40, true))⟩, [42, 40]),
  (⟨(some 44), .pick (.t 40) (.t 43) (.k (.B false)), (some (36, false))⟩, [40, 43, 36]),
  (⟨(some 45), .pick (.t 36) (.k (.B true)) (.t 44), none⟩, [36, 44]),
  (⟨(some 46), .mv (.t 45), none⟩, [45]),
  (⟨(some 47), .fad 1 (.t 6), (some (46, false))⟩, [6, 46]),
  (⟨(some 48), .ld none (.t 47), (some (46, false))⟩, [47, 46]),
  (⟨(some 49), .not (.t 48), (some (46, false))⟩, [48, 46]),
  (⟨(some 50), .mv (.t 49), (some (46, false))⟩, [49, 46]),
  (⟨(some 51), .fad 0 (.t 6), (some (50, true))⟩, [6, 50]),
  (⟨(some 52), .ld none (.t 51), (some (50, true))⟩, [51, 50]),
  (⟨(some 53), .bin .neq (.t 52) (.k (.I 0)), (some (50, true))⟩, [52, 50]),
  (⟨(some 54), .pick (.t 50) (.t 53) (.k (.B false)), (some (46, false))⟩, [50, 53, 46]),
  (⟨(some 55), .pick (.t 46) (.k (.B true)) (.t 54), none⟩, [46, 54])]
abbrev c25_8 : AC := .reg [⟨(some 2), .mv (.k (.B false)), none⟩] false
abbrev c25_9 : AC := .seq c25_8 .ret
abbrev c25_10 : AC := .cond (.t 55) c25_9 .skip
abbrev c25_11 : AC := .seq c25_7 c25_10
abbrev c25_12 : AC := .seq c25_6 c25_11
abbrev c25_13 : AC := .seq c25_5 c25_12
abbrev c25_14 : AC := .block 1 c25_13
abbrev c25_15 : AC := .reg [⟨(some 56), .bin .add (.t 9) (.k (.I 1)), none⟩,
  ⟨(some 9), .mv (.t 56), none⟩] false
abbrev c25_16 : AC := .seq c25_14 c25_15
abbrev c25_17 : AC := .seq c25_4 c25_16
abbrev c25_18 : AC := .seq c25_3 c25_17
abbrev c25_19 : AC := .loop c25_18
abbrev c25_20 : AC := .block 0 c25_19
abbrev c25_21 : AC := .seq c25_2 c25_20
abbrev c25_22 : AC := .reg [⟨(some 57), .mv (.t 0), none⟩,
  ⟨(some 58), .len (.t 57), none⟩,
  ⟨(some 59), .bin .leq (.t 58) (.k (.I 64)), none⟩,
  ⟨(some 2), .mv (.t 59), none⟩] false
abbrev c25_23 : AC := .seq c25_22 .ret
abbrev c25_24 : AC := .seq c25_21 c25_23
abbrev c25_25 : AC := .seq c25_1 c25_24
abbrev c25 : AC := c25_25
theorem code25 : fnCode Try.prog 25 = some (c25, [2], 60) := by kernel_rfl
/- coinage/coinageref12.ValidChanges -/
abbrev c26_1 : AC := .reg [⟨(some 2), .mv (.k (.B false)), none⟩] false
abbrev c26_2 : AC := .reg [⟨(some 3), .mv (.k (.I 0)), none⟩] false
abbrev c26_3 : AC := .reg [⟨(some 4), .mv (.t 3), none⟩,
  ⟨(some 5), .mv (.t 0), none⟩,
  ⟨(some 6), .len (.t 5), none⟩,
  ⟨(some 7), .bin .lss (.t 4) (.t 6), none⟩] false
abbrev c26_4 : AC := .cond (.t 7) .skip (.exit 0)
abbrev c26_5 : AC := .seq c26_3 c26_4
abbrev c26_6 : AC := .regD [(⟨(some 10), .mv (.t 0), none⟩, [0]),
  (⟨(some 11), .mv (.t 3), none⟩, [3]),
  (⟨(some 12), .iad 5 (.t 10) (.t 11), none⟩, [10, 11]),
  (⟨(some 13), .ld (some 5) (.t 12), none⟩, [12]),
  (⟨(some 14), .call 44 [(.t 13)], none⟩, [13]),
  (⟨(some 15), .not (.t 14), none⟩, [14]),
  (⟨(some 16), .mv (.t 15), none⟩, [15]),
  (⟨(some 17), .mv (.t 3), (some (16, false))⟩, [3, 16]),
  (⟨(some 18), .bin .gtr (.t 17) (.k (.I 0)), (some (16, false))⟩, [17, 16]),
  (⟨(some 19), .mv (.t 18), (some (16, false))⟩, [18, 16]),
  (⟨(some 20), .mv (.t 0), (some (19, true))⟩, [0, 19]),
  (⟨(some 21), .mv (.t 3), (some (19, true))⟩, [3, 19]),
  (⟨(some 22), .iad 5 (.t 20) (.t 21), (some (19, true))⟩, [20, 21, 19]),
  (⟨(some 23), .fad 0 (.t 22), (some (19, true))⟩, [22, 19]),
  (⟨(some 24), .ld none (.t 23), (some (19, true))⟩, [23, 19]),
  (⟨(some 25), .mv (.t 0), (some (19, true))⟩, [0, 19]),
  (⟨(some 26), .mv (.t 3), (some (19, true))⟩, [3, 19]),
  (⟨(some 27), .bin .sub (.t 26) (.k (.I 1)), (some (19, true))⟩, [26, 19]),
  (⟨(some 28), .iad 5 (.t 25) (.t 27), (some (19, true))⟩, [25, 27, 19]),
  (⟨(some 29), .fad 0 (.t 28), (some (19, true))⟩, [28, 19]),
  (⟨(some 30), .ld none (.t 29), (some (19, true))⟩, [29, 19]),
  (⟨(some 31), .bin .leq (.t 24) (.t 30), (some (19, true))⟩, [24, 30, 19]),
  (⟨(some 32), .pick (.t 19) (.t 31) (.k (.B false)), (some (16, false))⟩, [19, 31, 16]),
  (⟨(some 33), .pick (.t 16) (.k (.B true)) (.t 32), none⟩, [16, 32])]
abbrev c26_7 : AC := .reg [⟨(some 2), .mv (.k (.B false)), none⟩] false
abbrev c26_8 : AC := .seq c26_7 .ret
abbrev c26_9 : AC := .cond (.t 33) c26_8 .skip
abbrev c26_10 : AC := .seq c26_6 c26_9
abbrev c26_11 : AC := .block 1 c26_10
abbrev c26_12 : AC := .reg [⟨(some 8), .mv (.t 3), none⟩,
  ⟨(some 9), .bin .add (.t 8) (.k (.I 1)), none⟩,
  ⟨(some 3), .mv (.t 9), none⟩] false
abbrev c26_13 : AC := .seq c26_11 c26_12
abbrev c26_14 : AC := .seq c26_5 c26_13
abbrev c26_15 : AC := .loop c26_14
abbrev c26_16 : AC := .block 0 c26_15
abbrev c26_17 : AC := .seq c26_2 c26_16
abbrev c26_18 : AC := .reg [⟨(some 34), .mv (.t 0), none⟩,
  ⟨(some 35), .len (.t 34), none⟩,
  ⟨(some 36), .bin .leq (.t 35) (.k (.I 64)), none⟩,
  ⟨(some 2), .mv (.t 36), none⟩] false
abbrev c26_19 : AC := .seq c26_18 .ret
abbrev c26_20 : AC := .seq c26_17 c26_19
abbrev c26_21 : AC := .seq c26_1 c26_20
abbrev c26 : AC := c26_21
theorem code26 : fnCode Try.prog 26 = some (c26, [2], 37) := by kernel_rfl
/- coinage/opinion.Apply -/
abbrev c27_1 : AC := .reg [⟨(some 4), .mv (.k (.c .nil)), none⟩,
  ⟨(some 5), .mv (.k (.I 0)), none⟩] false
abbrev c27_2 : AC := .reg [⟨(some 10), .mv (.t 0), none⟩,
  ⟨(some 11), .call 20 [(.t 10)], none⟩,
  ⟨(some 12), .not (.t 11), none⟩,
  ⟨(some 13), .mv (.t 12), none⟩,
  ⟨(some 14), .mv (.t 1), (some (13, false))⟩,
  ⟨(some 15), .call 25 [(.t 14)], (some (13, false))⟩,
  ⟨(some 16), .not (.t 15), (some (13, false))⟩,
  ⟨(some 17), .pick (.t 13) (.k (.B true)) (.t 16), none⟩] false
abbrev c27_3 : AC := .reg [⟨(some 4), .mv (.k (.c .nil)), none⟩,
  ⟨(some 5), .mv (.k (.I 1)), none⟩] false
abbrev c27_4 : AC := .seq c27_3 .ret
abbrev c27_5 : AC := .cond (.t 17) c27_4 .skip
abbrev c27_6 : AC := .seq c27_2 c27_5
abbrev c27_7 : AC := .reg [⟨(some 18), .mv (.t 0), none⟩,
  ⟨(some 19), .call 31 [(.t 18)], none⟩,
  ⟨(some 6), .mv (.t 19), none⟩] false
abbrev c27_8 : AC := .reg [⟨(some 20), .mv (.t 1), none⟩,
  ⟨(some 21), .len (.t 20), none⟩,
  ⟨(some 22), .mv (.k (.I 0)), none⟩] false
abbrev c27_9 : AC := .reg [⟨(some 23), .bin .lss (.t 22) (.t 21), none⟩] false
abbrev c27_10 : AC := .cond (.t 23) .skip (.exit 0)
abbrev c27_11 : AC := .reg [⟨(some 24), .iad 5 (.t 20) (.t 22), none⟩,
  ⟨(some 25), .ld (some 5) (.t 24), none⟩,
  ⟨(some 8), .alloc 51 [(.I 0), (.I 0), (.I 0), (.B false), (.B false)], none⟩,
  ⟨none, .st (some 5) (.t 8) (.t 25), none⟩] false
abbrev c27_12 : AC := .regD [(⟨(some 26), .mv (.t 6), none⟩, [6]),
  (⟨(some 27), .fad 0 (.t 8), none⟩, [8]),
  (⟨(some 28), .ld none (.t 27), none⟩, [27]),
  (⟨(some 29), .look (.one .i64) (.inr [(.sc (.int .i64 0)), (.sc (.bool false))]) false (.t 26) (.t 28), none⟩, [26, 28]),
  (⟨(some 30), .ld (some 5) (.t 8), none⟩, [8]),
  (⟨(some 31), .call 40 [(.t 30)], none⟩, [30]),
  (⟨(some 32), .eqs true [false, true] (.t 29) (.t 31), none⟩, [29, 31])]
abbrev c27_13 : AC := .reg [⟨(some 4), .mv (.k (.c .nil)), none⟩,
  ⟨(some 5), .mv (.k (.I 10)), none⟩] false
abbrev c27_14 : AC := .seq c27_13 .ret
abbrev c27_15 : AC := .cond (.t 32) c27_14 .skip
abbrev c27_16 : AC := .seq c27_12 c27_15
abbrev c27_17 : AC := .regX (.first ⟨(some 33), .mv (.t 6), none⟩
  (.first ⟨(some 34), .fad 0 (.t 8), none⟩
  (.fork ⟨(some 35), .ld none (.t 34), none⟩
  (.fork ⟨(some 36), .ld (some 5) (.t 8), none⟩
  (.fork ⟨(some 37), .call 39 [(.t 36)], none⟩
  (.fork ⟨none, .mset (.one .i64) (.t 33) (.t 35) (.t 37), none⟩
  .done
  .nope)
  .nope)
  .nope)
  (.fork ⟨(some 36), .ld (some 5) (.t 8), none⟩
  (.fork ⟨(some 35), .ld none (.t 34), none⟩
  (.fork ⟨(some 37), .call 39 [(.t 36)], none⟩
  (.fork ⟨none, .mset (.one .i64) (.t 33) (.t 35) (.t 37), none⟩
  .done
  .nope)
  .nope)
  (.fork ⟨(some 37), .call 39 [(.t 36)], none⟩
  (.fork ⟨(some 35), .ld none (.t 34), none⟩
  (.fork ⟨none, .mset (.one .i64) (.t 33) (.t 35) (.t 37), none⟩
  .done
  .nope)
  .nope)
  .nope))
  .nope))))
abbrev c27_18 : AC := .seq c27_16 c27_17
abbrev c27_19 : AC := .seq c27_11 c27_18
abbrev c27_20 : AC := .block 1 c27_19
abbrev c27_21 : AC := .reg [⟨(some 38), .bin .add (.t 22) (.k (.I 1)), none⟩,
  ⟨(some 22), .mv (.t 38), none⟩] false
abbrev c27_22 : AC := .seq c27_20 c27_21
abbrev c27_23 : AC := .seq c27_10 c27_22
abbrev c27_24 : AC := .seq c27_9 c27_23
abbrev c27_25 : AC := .loop c27_24
abbrev c27_26 : AC := .block 0 c27_25
abbrev c27_27 : AC := .seq c27_8 c27_26
abbrev c27_28 : AC := .reg [⟨(some 39), .mv (.t 6), none⟩,
  ⟨(some 40), .call 37 [(.t 39)], none⟩,
  ⟨(some 9), .mv (.t 40), none⟩] false
abbrev c27_29 : AC := .reg [⟨(some 41), .mv (.t 9), none⟩,
  ⟨(some 42), .len (.t 41), none⟩,
  ⟨(some 43), .bin .gtr (.t 42) (.k (.I 64)), none⟩] false
abbrev c27_30 : AC := .reg [⟨(some 4), .mv (.k (.c .nil)), none⟩,
  ⟨(some 5), .mv (.k (.I 6)), none⟩] false
abbrev c27_31 : AC := .seq c27_30 .ret
abbrev c27_32 : AC := .cond (.t 43) c27_31 .skip
abbrev c27_33 : AC := .seq c27_29 c27_32
abbrev c27_34 : AC := .reg [⟨(some 44), .mv (.t 9), none⟩,
  ⟨(some 4), .mv (.t 44), none⟩,
  ⟨(some 5), .mv (.k (.I 0)), none⟩] false
abbrev c27_35 : AC := .seq c27_34 .ret
abbrev c27_36 : AC := .seq c27_33 c27_35
abbrev c27_37 : AC := .seq c27_28 c27_36
abbrev c27_38 : AC := .seq c27_27 c27_37
abbrev c27_39 : AC := .seq c27_7 c27_38
abbrev c27_40 : AC := .seq c27_6 c27_39
abbrev c27_41 : AC := .seq c27_1 c27_40
abbrev c27 : AC := c27_41
theorem code27 : fnCode Try.prog 27 = some (c27, [4, 5], 45) := by kernel_rfl
/- coinage/coinageref12.Apply -/
abbrev c28_1 : AC := .reg [⟨(some 4), .mv (.k (.c .nil)), none⟩,
  ⟨(some 5), .mv (.k (.I 0)), none⟩] false
abbrev c28_2 : AC := .reg [⟨(some 12), .mv (.t 0), none⟩,
  ⟨(some 13), .call 24 [(.t 12)], none⟩,
  ⟨(some 14), .not (.t 13), none⟩,
  ⟨(some 15), .mv (.t 14), none⟩,
  ⟨(some 16), .mv (.t 1), (some (15, false))⟩,
  ⟨(some 17), .call 26 [(.t 16)], (some (15, false))⟩,
  ⟨(some 18), .not (.t 17), (some (15, false))⟩,
  ⟨(some 19), .pick (.t 15) (.k (.B true)) (.t 18), none⟩] false
abbrev c28_3 : AC := .reg [⟨(some 4), .mv (.k (.c .nil)), none⟩,
  ⟨(some 5), .mv (.k (.I 1)), none⟩] false
abbrev c28_4 : AC := .seq c28_3 .ret
abbrev c28_5 : AC := .cond (.t 19) c28_4 .skip
abbrev c28_6 : AC := .seq c28_2 c28_5
abbrev c28_7 : AC := .reg [⟨(some 20), .mv (.t 0), none⟩,
  ⟨(some 21), .bslice 22 1 [(.t 20)], none⟩,
  ⟨(some 22), .call 34 [(.t 21)], none⟩,
  ⟨(some 6), .mv (.t 22), none⟩] false
abbrev c28_8 : AC := .reg [⟨(some 7), .mv (.k (.I 0)), none⟩] false
abbrev c28_9 : AC := .reg [⟨(some 23), .mv (.t 7), none⟩,
  ⟨(some 24), .mv (.t 1), none⟩,
  ⟨(some 25), .len (.t 24), none⟩,
  ⟨(some 26), .bin .lss (.t 23) (.t 25), none⟩] false
abbrev c28_10 : AC := .cond (.t 26) .skip (.exit 0)
abbrev c28_11 : AC := .seq c28_9 c28_10
abbrev c28_12 : AC := .regD [(⟨(some 29), .mv (.t 0), none⟩, [0]),
  (⟨(some 30), .mv (.t 1), none⟩, [1]),
  (⟨(some 31), .mv (.t 7), none⟩, [7]),
  (⟨(some 32), .iad 5 (.t 30) (.t 31), none⟩, [30, 31]),
  (⟨(some 33), .fad 0 (.t 32), none⟩, [32]),
  (⟨(some 34), .ld none (.t 33), none⟩, [33]),
  (⟨(some 35), .call 36 [(.t 29), (.t 34)], none⟩, [29, 34]),
  (⟨(some 36), .mv (.t 1), none⟩, [1]),
  (⟨(some 37), .mv (.t 7), none⟩, [7]),
  (⟨(some 38), .iad 5 (.t 36) (.t 37), none⟩, [36, 37]),
  (⟨(some 39), .ld (some 5) (.t 38), none⟩, [38]),
  (⟨(some 40), .call 42 [(.t 39)], none⟩, [39]),
  (⟨(some 41), .eqs true [false, true] (.t 35) (.t 40), none⟩, [35, 40])]
abbrev c28_13 : AC := .reg [⟨(some 4), .mv (.k (.c .nil)), none⟩,
  ⟨(some 5), .mv (.k (.I 10)), none⟩] false
abbrev c28_14 : AC := .seq c28_13 .ret
abbrev c28_15 : AC := .cond (.t 41) c28_14 .skip
abbrev c28_16 : AC := .seq c28_12 c28_15
abbrev c28_17 : AC := .reg [⟨(some 42), .mv (.t 6), none⟩,
  ⟨(some 43), .mv (.t 1), none⟩,
  ⟨(some 44), .mv (.t 7), none⟩,
  ⟨(some 45), .iad 5 (.t 43) (.t 44), none⟩,
  ⟨(some 46), .fad 0 (.t 45), none⟩,
  ⟨(some 47), .ld none (.t 46), none⟩,
  ⟨(some 48), .call 45 [(.t 42), (.t 47)], none⟩,
  ⟨(some 6), .mv (.t 48), none⟩] false
abbrev c28_18 : AC := .seq c28_16 c28_17
abbrev c28_19 : AC := .block 1 c28_18
abbrev c28_20 : AC := .reg [⟨(some 27), .mv (.t 7), none⟩,
  ⟨(some 28), .bin .add (.t 27) (.k (.I 1)), none⟩,
  ⟨(some 7), .mv (.t 28), none⟩] false
abbrev c28_21 : AC := .seq c28_19 c28_20
abbrev c28_22 : AC := .seq c28_11 c28_21
abbrev c28_23 : AC := .loop c28_22
abbrev c28_24 : AC := .block 0 c28_23
abbrev c28_25 : AC := .seq c28_8 c28_24
abbrev c28_26 : AC := .reg [⟨(some 8), .mv (.k (.c .nil)), none⟩] false
abbrev c28_27 : AC := .reg [⟨(some 9), .mv (.k (.I 0)), none⟩] false
abbrev c28_28 : AC := .reg [⟨(some 49), .mv (.t 9), none⟩,
  ⟨(some 50), .mv (.t 6), none⟩,
  ⟨(some 51), .len (.t 50), none⟩,
  ⟨(some 52), .bin .lss (.t 49) (.t 51), none⟩] false
abbrev c28_29 : AC := .cond (.t 52) .skip (.exit 2)
abbrev c28_30 : AC := .seq c28_28 c28_29
abbrev c28_31 : AC := .reg [⟨(some 55), .mv (.t 0), none⟩,
  ⟨(some 56), .mv (.t 6), none⟩,
  ⟨(some 57), .mv (.t 9), none⟩,
  ⟨(some 58), .iad 1 (.t 56) (.t 57), none⟩,
  ⟨(some 59), .ld none (.t 58), none⟩,
  ⟨(some 60), .call 36 [(.t 55), (.t 59)], none⟩,
  ⟨(some 10), .alloc 57 [(.I 0), (.B false)], none⟩,
  ⟨none, .st (some 2) (.t 10) (.t 60), none⟩] false
abbrev c28_32 : AC := .reg [⟨(some 61), .mv (.t 1), none⟩,
  ⟨(some 62), .mv (.t 6), none⟩,
  ⟨(some 63), .mv (.t 9), none⟩,
  ⟨(some 64), .iad 1 (.t 62) (.t 63), none⟩,
  ⟨(some 65), .ld none (.t 64), none⟩,
  ⟨(some 66), .call 46 [(.t 61), (.t 65)], none⟩,
  ⟨(some 11), .mv (.t 66), none⟩] false
abbrev c28_33 : AC := .reg [⟨(some 67), .mv (.t 11), none⟩,
  ⟨(some 68), .bin .geq (.t 67) (.k (.I 0)), none⟩] false
abbrev c28_34 : AC := .reg [⟨(some 69), .mv (.t 1), none⟩,
  ⟨(some 70), .mv (.t 11), none⟩,
  ⟨(some 71), .iad 5 (.t 69) (.t 70), none⟩,
  ⟨(some 72), .ld (some 5) (.t 71), none⟩,
  ⟨(some 73), .call 41 [(.t 72)], none⟩,
  ⟨none, .st (some 2) (.t 10) (.t 73), none⟩] false
abbrev c28_35 : AC := .cond (.t 68) c28_34 .skip
abbrev c28_36 : AC := .seq c28_33 c28_35
abbrev c28_37 : AC := .seq c28_32 c28_36
abbrev c28_38 : AC := .regD [(⟨(some 74), .mv (.t 8), none⟩, [8]),
  (⟨(some 75), .mv (.t 6), none⟩, [6]),
  (⟨(some 76), .mv (.t 9), none⟩, [9]),
  (⟨(some 77), .iad 1 (.t 75) (.t 76), none⟩, [75, 76]),
  (⟨(some 78), .ld none (.t 77), none⟩, [77]),
  (⟨(some 79), .ld (some 2) (.t 10), none⟩, [10]),
  (⟨(some 80), .call 38 [(.t 74), (.t 78), (.t 79)], none⟩, [74, 78, 79]),
  (⟨(some 8), .mv (.t 80), none⟩, [80])]
abbrev c28_39 : AC := .seq c28_37 c28_38
abbrev c28_40 : AC := .seq c28_31 c28_39
abbrev c28_41 : AC := .block 3 c28_40
abbrev c28_42 : AC := .reg [⟨(some 53), .mv (.t 9), none⟩,
  ⟨(some 54), .bin .add (.t 53) (.k (.I 1)), none⟩,
  ⟨(some 9), .mv (.t 54), none⟩] false
abbrev c28_43 : AC := .seq c28_41 c28_42
abbrev c28_44 : AC := .seq c28_30 c28_43
abbrev c28_45 : AC := .loop c28_44
abbrev c28_46 : AC := .block 2 c28_45
abbrev c28_47 : AC := .seq c28_27 c28_46
abbrev c28_48 : AC := .reg [⟨(some 81), .mv (.t 8), none⟩,
  ⟨(some 82), .len (.t 81), none⟩,
  ⟨(some 83), .bin .gtr (.t 82) (.k (.I 64)), none⟩] false
abbrev c28_49 : AC := .reg [⟨(some 4), .mv (.k (.c .nil)), none⟩,
  ⟨(some 5), .mv (.k (.I 6)), none⟩] false
abbrev c28_50 : AC := .seq c28_49 .ret
abbrev c28_51 : AC := .cond (.t 83) c28_50 .skip
abbrev c28_52 : AC := .seq c28_48 c28_51
abbrev c28_53 : AC := .reg [⟨(some 84), .mv (.t 8), none⟩,
  ⟨(some 4), .mv (.t 84), none⟩,
  ⟨(some 5), .mv (.k (.I 0)), none⟩] false
abbrev c28_54 : AC := .seq c28_53 .ret
abbrev c28_55 : AC := .seq c28_52 c28_54
abbrev c28_56 : AC := .seq c28_47 c28_55
abbrev c28_57 : AC := .seq c28_26 c28_56
abbrev c28_58 : AC := .seq c28_25 c28_57
abbrev c28_59 : AC := .seq c28_7 c28_58
abbrev c28_60 : AC := .seq c28_6 c28_59
abbrev c28_61 : AC := .seq c28_1 c28_60
abbrev c28 : AC := c28_61
theorem code28 : fnCode Try.prog 28 = some (c28, [4, 5], 85) := by kernel_rfl
/- coinage/opinion.Compose -/
abbrev c29_1 : AC := .reg [⟨(some 4), .mv (.k (.c .nil)), none⟩,
  ⟨(some 5), .mv (.k (.I 0)), none⟩] false
abbrev c29_2 : AC := .reg [⟨(some 16), .mv (.t 0), none⟩,
  ⟨(some 17), .call 25 [(.t 16)], none⟩,
  ⟨(some 18), .not (.t 17), none⟩,
  ⟨(some 19), .mv (.t 18), none⟩,
  ⟨(some 20), .mv (.t 1), (some (19, false))⟩,
  ⟨(some 21), .call 25 [(.t 20)], (some (19, false))⟩,
  ⟨(some 22), .not (.t 21), (some (19, false))⟩,
  ⟨(some 23), .pick (.t 19) (.k (.B true)) (.t 22), none⟩] false
abbrev c29_3 : AC := .reg [⟨(some 4), .mv (.k (.c .nil)), none⟩,
  ⟨(some 5), .mv (.k (.I 1)), none⟩] false
abbrev c29_4 : AC := .seq c29_3 .ret
abbrev c29_5 : AC := .cond (.t 23) c29_4 .skip
abbrev c29_6 : AC := .seq c29_2 c29_5
abbrev c29_7 : AC := .reg [⟨(some 24), .mkmap (.one .i64), none⟩,
  ⟨(some 6), .mv (.t 24), none⟩] false
abbrev c29_8 : AC := .reg [⟨(some 25), .mv (.t 0), none⟩,
  ⟨(some 26), .len (.t 25), none⟩,
  ⟨(some 27), .mv (.k (.I 0)), none⟩] false
abbrev c29_9 : AC := .reg [⟨(some 28), .bin .lss (.t 27) (.t 26), none⟩] false
abbrev c29_10 : AC := .cond (.t 28) .skip (.exit 0)
abbrev c29_11 : AC := .reg [⟨(some 29), .iad 5 (.t 25) (.t 27), none⟩,
  ⟨(some 30), .ld (some 5) (.t 29), none⟩,
  ⟨(some 8), .alloc 51 [(.I 0), (.I 0), (.I 0), (.B false), (.B false)], none⟩,
  ⟨none, .st (some 5) (.t 8) (.t 30), none⟩] false
abbrev c29_12 : AC := .reg [⟨(some 31), .mv (.t 6), none⟩,
  ⟨(some 32), .fad 0 (.t 8), none⟩,
  ⟨(some 33), .ld none (.t 32), none⟩,
  ⟨(some 34), .ld (some 5) (.t 8), none⟩,
  ⟨none, .mset (.one .i64) (.t 31) (.t 33) (.t 34), none⟩] false
abbrev c29_13 : AC := .seq c29_11 c29_12
abbrev c29_14 : AC := .block 1 c29_13
abbrev c29_15 : AC := .reg [⟨(some 35), .bin .add (.t 27) (.k (.I 1)), none⟩,
  ⟨(some 27), .mv (.t 35), none⟩] false
abbrev c29_16 : AC := .seq c29_14 c29_15
abbrev c29_17 : AC := .seq c29_10 c29_16
abbrev c29_18 : AC := .seq c29_9 c29_17
abbrev c29_19 : AC := .loop c29_18
abbrev c29_20 : AC := .block 0 c29_19
abbrev c29_21 : AC := .seq c29_8 c29_20
abbrev c29_22 : AC := .reg [⟨(some 36), .mv (.t 1), none⟩,
  ⟨(some 37), .len (.t 36), none⟩,
  ⟨(some 38), .mv (.k (.I 0)), none⟩] false
abbrev c29_23 : AC := .reg [⟨(some 39), .bin .lss (.t 38) (.t 37), none⟩] false
abbrev c29_24 : AC := .cond (.t 39) .skip (.exit 2)
abbrev c29_25 : AC := .reg [⟨(some 40), .iad 5 (.t 36) (.t 38), none⟩,
  ⟨(some 41), .ld (some 5) (.t 40), none⟩,
  ⟨(some 10), .alloc 51 [(.I 0), (.I 0), (.I 0), (.B false), (.B false)], none⟩,
  ⟨none, .st (some 5) (.t 10) (.t 41), none⟩] false
abbrev c29_26 : AC := .reg [⟨(some 43), .mv (.t 6), none⟩,
  ⟨(some 44), .fad 0 (.t 10), none⟩,
  ⟨(some 45), .ld none (.t 44), none⟩,
  ⟨(some 46), .look (.one .i64) (.inr [(.sc (.int .i64 0)), (.sc (.int .i64 0)), (.sc (.int .i64 0)), (.sc (.bool false)), (.sc (.bool false))]) true (.t 43) (.t 45), none⟩,
  ⟨(some 42), .mv (.t 46), none⟩,
  ⟨(some 47), .ext (.t 42) 0, none⟩,
  ⟨(some 48), .ext (.t 42) 1, none⟩,
  ⟨(some 11), .alloc 51 [(.I 0), (.I 0), (.I 0), (.B false), (.B false)], none⟩,
  ⟨none, .st (some 5) (.t 11) (.t 47), none⟩,
  ⟨(some 12), .mv (.t 48), none⟩] false
abbrev c29_27 : AC := .reg [⟨(some 60), .mv (.t 12), none⟩,
  ⟨(some 61), .not (.t 60), none⟩,
  ⟨(some 59), .mv (.t 61), none⟩] false
abbrev c29_28 : AC := .reg [⟨(some 62), .mv (.t 6), none⟩,
  ⟨(some 63), .fad 0 (.t 10), none⟩,
  ⟨(some 64), .ld none (.t 63), none⟩,
  ⟨(some 65), .ld (some 5) (.t 10), none⟩,
  ⟨none, .mset (.one .i64) (.t 62) (.t 64) (.t 65), none⟩] false
abbrev c29_29 : AC := .regD [(⟨(some 67), .ld (some 5) (.t 11), none⟩, [11]),
  (⟨(some 68), .call 39 [(.t 67)], none⟩, [67]),
  (⟨(some 69), .ld (some 5) (.t 10), none⟩, [10]),
  (⟨(some 70), .call 40 [(.t 69)], none⟩, [69]),
  (⟨(some 71), .eqs true [false, true] (.t 68) (.t 70), none⟩, [68, 70]),
  (⟨(some 66), .mv (.t 71), none⟩, [71])]
abbrev c29_30 : AC := .reg [⟨(some 4), .mv (.k (.c .nil)), none⟩,
  ⟨(some 5), .mv (.k (.I 10)), none⟩] false
abbrev c29_31 : AC := .seq c29_30 .ret
abbrev c29_32 : AC := .regD [(⟨(some 73), .ld (some 5) (.t 11), none⟩, [11]),
  (⟨(some 74), .call 40 [(.t 73)], none⟩, [73]),
  (⟨(some 75), .ld (some 5) (.t 10), none⟩, [10]),
  (⟨(some 76), .call 39 [(.t 75)], none⟩, [75]),
  (⟨(some 77), .eqs false [false, true] (.t 74) (.t 76), none⟩, [74, 76]),
  (⟨(some 72), .mv (.t 77), none⟩, [77])]
abbrev c29_33 : AC := .reg [⟨(some 78), .mv (.t 6), none⟩,
  ⟨(some 79), .fad 0 (.t 10), none⟩,
  ⟨(some 80), .ld none (.t 79), none⟩,
  ⟨none, .mdel (.one .i64) (.t 78) (.t 80), none⟩] false
abbrev c29_34 : AC := .regX (.first ⟨(some 49), .mv (.t 6), none⟩
  (.first ⟨(some 50), .fad 0 (.t 10), none⟩
  (.first ⟨(some 52), .fad 0 (.t 10), none⟩
  (.fork ⟨(some 51), .ld none (.t 50), none⟩
  (.fork ⟨(some 53), .ld none (.t 52), none⟩
  (.fork ⟨(some 54), .ld (some 5) (.t 11), none⟩
  (.fork ⟨(some 55), .call 40 [(.t 54)], none⟩
  (.fork ⟨(some 56), .ld (some 5) (.t 10), none⟩
  (.fork ⟨(some 57), .call 39 [(.t 56)], none⟩
  (.fork ⟨(some 58), .call 33 [(.t 53), (.t 55), (.t 57)], none⟩
  (.fork ⟨none, .mset (.one .i64) (.t 49) (.t 51) (.t 58), none⟩
  .done
  .nope)
  .nope)
  .nope)
  .nope)
  (.fork ⟨(some 56), .ld (some 5) (.t 10), none⟩
  (.fork ⟨(some 55), .call 40 [(.t 54)], none⟩
  (.fork ⟨(some 57), .call 39 [(.t 56)], none⟩
  (.fork ⟨(some 58), .call 33 [(.t 53), (.t 55), (.t 57)], none⟩
  (.fork ⟨none, .mset (.one .i64) (.t 49) (.t 51) (.t 58), none⟩
  .done
  .nope)
  .nope)
  .nope)
  .nope)
  .nope))
  (.fork ⟨(some 56), .ld (some 5) (.t 10), none⟩
  (.fork ⟨(some 54), .ld (some 5) (.t 11), none⟩
  (.fork ⟨(some 55), .call 40 [(.t 54)], none⟩
  (.fork ⟨(some 57), .call 39 [(.t 56)], none⟩
  (.fork ⟨(some 58), .call 33 [(.t 53), (.t 55), (.t 57)], none⟩
  (.fork ⟨none, .mset (.one .i64) (.t 49) (.t 51) (.t 58), none⟩
  .done
  .nope)
  .nope)
  .nope)
  .nope)
  .nope)
  .nope))
  (.fork ⟨(some 54), .ld (some 5) (.t 11), none⟩
  (.fork ⟨(some 53), .ld none (.t 52), none⟩
  (.fork ⟨(some 55), .call 40 [(.t 54)], none⟩
  (.fork ⟨(some 56), .ld (some 5) (.t 10), none⟩
  (.fork ⟨(some 57), .call 39 [(.t 56)], none⟩
  (.fork ⟨(some 58), .call 33 [(.t 53), (.t 55), (.t 57)], none⟩
  (.fork ⟨none, .mset (.one .i64) (.t 49) (.t 51) (.t 58), none⟩
  .done
  .nope)
  .nope)
  .nope)
  .nope)
  (.fork ⟨(some 56), .ld (some 5) (.t 10), none⟩
  (.fork ⟨(some 55), .call 40 [(.t 54)], none⟩
  (.fork ⟨(some 57), .call 39 [(.t 56)], none⟩
  (.fork ⟨(some 58), .call 33 [(.t 53), (.t 55), (.t 57)], none⟩
  (.fork ⟨none, .mset (.one .i64) (.t 49) (.t 51) (.t 58), none⟩
  .done
  .nope)
  .nope)
  .nope)
  .nope)
  .nope))
  (.fork ⟨(some 55), .call 40 [(.t 54)], none⟩
  (.fork ⟨(some 53), .ld none (.t 52), none⟩
  (.fork ⟨(some 56), .ld (some 5) (.t 10), none⟩
  (.fork ⟨(some 57), .call 39 [(.t 56)], none⟩
  (.fork ⟨(some 58), .call 33 [(.t 53), (.t 55), (.t 57)], none⟩
  (.fork ⟨none, .mset (.one .i64) (.t 49) (.t 51) (.t 58), none⟩
  .done
  .nope)
  .nope)
  .nope)
  .nope)
  (.fork ⟨(some 56), .ld (some 5) (.t 10), none⟩
  (.fork ⟨(some 53), .ld none (.t 52), none⟩
  (.fork ⟨(some 57), .call 39 [(.t 56)], none⟩
  (.fork ⟨(some 58), .call 33 [(.t 53), (.t 55), (.t 57)], none⟩
  (.fork ⟨none, .mset (.one .i64) (.t 49) (.t 51) (.t 58), none⟩
  .done
  .nope)
  .nope)
  .nope)
  (.fork ⟨(some 57), .call 39 [(.t 56)], none⟩
  (.fork ⟨(some 53), .ld none (.t 52), none⟩
  (.fork ⟨(some 58), .call 33 [(.t 53), (.t 55), (.t 57)], none⟩
  (.fork ⟨none, .mset (.one .i64) (.t 49) (.t 51) (.t 58), none⟩
  .done
  .nope)
  .nope)
  .nope)
  .nope))
  .nope))
  (.fork ⟨(some 56), .ld (some 5) (.t 10), none⟩
  (.fork ⟨(some 53), .ld none (.t 52), none⟩
  (.fork ⟨(some 55), .call 40 [(.t 54)], none⟩
  (.fork ⟨(some 57), .call 39 [(.t 56)], none⟩
  (.fork ⟨(some 58), .call 33 [(.t 53), (.t 55), (.t 57)], none⟩
  (.fork ⟨none, .mset (.one .i64) (.t 49) (.t 51) (.t 58), none⟩
  .done
  .nope)
  .nope)
  .nope)
  .nope)
  (.fork ⟨(some 55), .call 40 [(.t 54)], none⟩
  (.fork ⟨(some 53), .ld none (.t 52), none⟩
  (.fork ⟨(some 57), .call 39 [(.t 56)], none⟩
  (.fork ⟨(some 58), .call 33 [(.t 53), (.t 55), (.t 57)], none⟩
  (.fork ⟨none, .mset (.one .i64) (.t 49) (.t 51) (.t 58), none⟩
  .done
  .nope)
  .nope)
  .nope)
  (.fork ⟨(some 57), .call 39 [(.t 56)], none⟩
  (.fork ⟨(some 53), .ld none (.t 52), none⟩
  (.fork ⟨(some 58), .call 33 [(.t 53), (.t 55), (.t 57)], none⟩
  (.fork ⟨none, .mset (.one .i64) (.t 49) (.t 51) (.t 58), none⟩
  .done
  .nope)
  .nope)
  .nope)
  .nope))
  .nope))
  .nope)))
  (.fork ⟨(some 56), .ld (some 5) (.t 10), none⟩
  (.fork ⟨(some 53), .ld none (.t 52), none⟩
  (.fork ⟨(some 54), .ld (some 5) (.t 11), none⟩
  (.fork ⟨(some 55), .call 40 [(.t 54)], none⟩
  (.fork ⟨(some 57), .call 39 [(.t 56)], none⟩
  (.fork ⟨(some 58), .call 33 [(.t 53), (.t 55), (.t 57)], none⟩
  (.fork ⟨none, .mset (.one .i64) (.t 49) (.t 51) (.t 58), none⟩
  .done
  .nope)
  .nope)
  .nope)
  .nope)
  .nope)
  (.fork ⟨(some 54), .ld (some 5) (.t 11), none⟩
  (.fork ⟨(some 53), .ld none (.t 52), none⟩
  (.fork ⟨(some 55), .call 40 [(.t 54)], none⟩
  (.fork ⟨(some 57), .call 39 [(.t 56)], none⟩
  (.fork ⟨(some 58), .call 33 [(.t 53), (.t 55), (.t 57)], none⟩
  (.fork ⟨none, .mset (.one .i64) (.t 49) (.t 51) (.t 58), none⟩
  .done
  .nope)
  .nope)
  .nope)
  .nope)
  (.fork ⟨(some 55), .call 40 [(.t 54)], none⟩
  (.fork ⟨(some 53), .ld none (.t 52), none⟩
  (.fork ⟨(some 57), .call 39 [(.t 56)], none⟩
  (.fork ⟨(some 58), .call 33 [(.t 53), (.t 55), (.t 57)], none⟩
  (.fork ⟨none, .mset (.one .i64) (.t 49) (.t 51) (.t 58), none⟩
  .done
  .nope)
  .nope)
  .nope)
  (.fork ⟨(some 57), .call 39 [(.t 56)], none⟩
  (.fork ⟨(some 53), .ld none (.t 52), none⟩
  (.fork ⟨(some 58), .call 33 [(.t 53), (.t 55), (.t 57)], none⟩
  (.fork ⟨none, .mset (.one .i64) (.t 49) (.t 51) (.t 58), none⟩
  .done
  .nope)
  .nope)
  .nope)
  .nope))
  .nope))
  .nope))
  .nope)))
  (.fork ⟨(some 53), .ld none (.t 52), none⟩
  (.fork ⟨(some 51), .ld none (.t 50), none⟩
  (.fork ⟨(some 54), .ld (some 5) (.t 11), none⟩
  (.fork ⟨(some 55), .call 40 [(.t 54)], none⟩
  (.fork ⟨(some 56), .ld (some 5) (.t 10), none⟩
  (.fork ⟨(some 57), .call 39 [(.t 56)], none⟩
  (.fork ⟨(some 58), .call 33 [(.t 53), (.t 55), (.t 57)], none⟩
  (.fork ⟨none, .mset (.one .i64) (.t 49) (.t 51) (.t 58), none⟩
  .done
  .nope)
  .nope)
  .nope)
  .nope)
  (.fork ⟨(some 56), .ld (some 5) (.t 10), none⟩
  (.fork ⟨(some 55), .call 40 [(.t 54)], none⟩
  (.fork ⟨(some 57), .call 39 [(.t 56)], none⟩
  (.fork ⟨(some 58), .call 33 [(.t 53), (.t 55), (.t 57)], none⟩
  (.fork ⟨none, .mset (.one .i64) (.t 49) (.t 51) (.t 58), none⟩
  .done
  .nope)
  .nope)
  .nope)
  .nope)
  .nope))
  (.fork ⟨(some 56), .ld (some 5) (.t 10), none⟩
  (.fork ⟨(some 54), .ld (some 5) (.t 11), none⟩
  (.fork ⟨(some 55), .call 40 [(.t 54)], none⟩
  (.fork ⟨(some 57), .call 39 [(.t 56)], none⟩
  (.fork ⟨(some 58), .call 33 [(.t 53), (.t 55), (.t 57)], none⟩
  (.fork ⟨none, .mset (.one .i64) (.t 49) (.t 51) (.t 58), none⟩
  .done
  .nope)
  .nope)
  .nope)
  .nope)
  .nope)
  .nope))
  (.fork ⟨(some 54), .ld (some 5) (.t 11), none⟩
  (.fork ⟨(some 51), .ld none (.t 50), none⟩
  (.fork ⟨(some 55), .call 40 [(.t 54)], none⟩
  (.fork ⟨(some 56), .ld (some 5) (.t 10), none⟩
  (.fork ⟨(some 57), .call 39 [(.t 56)], none⟩
  (.fork ⟨(some 58), .call 33 [(.t 53), (.t 55), (.t 57)], none⟩
  (.fork ⟨none, .mset (.one .i64) (.t 49) (.t 51) (.t 58), none⟩
  .done
  .nope)
  .nope)
  .nope)
  .nope)
  (.fork ⟨(some 56), .ld (some 5) (.t 10), none⟩
  (.fork ⟨(some 55), .call 40 [(.t 54)], none⟩
  (.fork ⟨(some 57), .call 39 [(.t 56)], none⟩
  (.fork ⟨(some 58), .call 33 [(.t 53), (.t 55), (.t 57)], none⟩
  (.fork ⟨none, .mset (.one .i64) (.t 49) (.t 51) (.t 58), none⟩
  .done
  .nope)
  .nope)
  .nope)
  .nope)
  .nope))
  (.fork ⟨(some 55), .call 40 [(.t 54)], none⟩
  (.fork ⟨(some 51), .ld none (.t 50), none⟩
  (.fork ⟨(some 56), .ld (some 5) (.t 10), none⟩
  (.fork ⟨(some 57), .call 39 [(.t 56)], none⟩
  (.fork ⟨(some 58), .call 33 [(.t 53), (.t 55), (.t 57)], none⟩
  (.fork ⟨none, .mset (.one .i64) (.t 49) (.t 51) (.t 58), none⟩
  .done
  .nope)
  .nope)
  .nope)
  .nope)
  (.fork ⟨(some 56), .ld (some 5) (.t 10), none⟩
  (.fork ⟨(some 51), .ld none (.t 50), none⟩
  (.fork ⟨(some 57), .call 39 [(.t 56)], none⟩
  (.fork ⟨(some 58), .call 33 [(.t 53), (.t 55), (.t 57)], none⟩
  (.fork ⟨none, .mset (.one .i64) (.t 49) (.t 51) (.t 58), none⟩
  .done
  .nope)
  .nope)
  .nope)
  (.fork ⟨(some 57), .call 39 [(.t 56)], none⟩
  (.fork ⟨(some 51), .ld none (.t 50), none⟩
  (.fork ⟨(some 58), .call 33 [(.t 53), (.t 55), (.t 57)], none⟩
  (.fork ⟨none, .mset (.one .i64) (.t 49) (.t 51) (.t 58), none⟩
  .done
  .nope)
  .nope)
  (.fork ⟨(some 58), .call 33 [(.t 53), (.t 55), (.t 57)], none⟩
  (.fork ⟨(some 51), .ld none (.t 50), none⟩
  (.fork ⟨none, .mset (.one .i64) (.t 49) (.t 51) (.t 58), none⟩
  .done
  .nope)
  .nope)
  .nope))
  .nope))
  .nope))
  (.fork ⟨(some 56), .ld (some 5) (.t 10), none⟩
  (.fork ⟨(some 51), .ld none (.t 50), none⟩
  (.fork ⟨(some 55), .call 40 [(.t 54)], none⟩
  (.fork ⟨(some 57), .call 39 [(.t 56)], none⟩
  (.fork ⟨(some 58), .call 33 [(.t 53), (.t 55), (.t 57)], none⟩
  (.fork ⟨none, .mset (.one .i64) (.t 49) (.t 51) (.t 58), none⟩
  .done
  .nope)
  .nope)
  .nope)
  .nope)
  (.fork ⟨(some 55), .call 40 [(.t 54)], none⟩
  (.fork ⟨(some 51), .ld none (.t 50), none⟩
  (.fork ⟨(some 57), .call 39 [(.t 56)], none⟩
  (.fork ⟨(some 58), .call 33 [(.t 53), (.t 55), (.t 57)], none⟩
  (.fork ⟨none, .mset (.one .i64) (.t 49) (.t 51) (.t 58), none⟩
  .done
  .nope)
  .nope)
  .nope)
  (.fork ⟨(some 57), .call 39 [(.t 56)], none⟩
  (.fork ⟨(some 51), .ld none (.t 50), none⟩
  (.fork ⟨(some 58), .call 33 [(.t 53), (.t 55), (.t 57)], none⟩
  (.fork ⟨none, .mset (.one .i64) (.t 49) (.t 51) (.t 58), none⟩
  .done
  .nope)
  .nope)
  (.fork ⟨(some 58), .call 33 [(.t 53), (.t 55), (.t 57)], none⟩
  (.fork ⟨(some 51), .ld none (.t 50), none⟩
  (.fork ⟨none, .mset (.one .i64) (.t 49) (.t 51) (.t 58), none⟩
  .done
  .nope)
  .nope)
  .nope))
  .nope))
  .nope))
  .nope)))
  (.fork ⟨(some 56), .ld (some 5) (.t 10), none⟩
  (.fork ⟨(some 51), .ld none (.t 50), none⟩
  (.fork ⟨(some 54), .ld (some 5) (.t 11), none⟩
  (.fork ⟨(some 55), .call 40 [(.t 54)], none⟩
  (.fork ⟨(some 57), .call 39 [(.t 56)], none⟩
  (.fork ⟨(some 58), .call 33 [(.t 53), (.t 55), (.t 57)], none⟩
  (.fork ⟨none, .mset (.one .i64) (.t 49) (.t 51) (.t 58), none⟩
  .done
  .nope)
  .nope)
  .nope)
  .nope)
  .nope)
  (.fork ⟨(some 54), .ld (some 5) (.t 11), none⟩
  (.fork ⟨(some 51), .ld none (.t 50), none⟩
  (.fork ⟨(some 55), .call 40 [(.t 54)], none⟩
  (.fork ⟨(some 57), .call 39 [(.t 56)], none⟩
  (.fork ⟨(some 58), .call 33 [(.t 53), (.t 55), (.t 57)], none⟩
  (.fork ⟨none, .mset (.one .i64) (.t 49) (.t 51) (.t 58), none⟩
  .done
  .nope)
  .nope)
  .nope)
  .nope)
  (.fork ⟨(some 55), .call 40 [(.t 54)], none⟩
  (.fork ⟨(some 51), .ld none (.t 50), none⟩
  (.fork ⟨(some 57), .call 39 [(.t 56)], none⟩
  (.fork ⟨(some 58), .call 33 [(.t 53), (.t 55), (.t 57)], none⟩
  (.fork ⟨none, .mset (.one .i64) (.t 49) (.t 51) (.t 58), none⟩
  .done
  .nope)
  .nope)
  .nope)
  (.fork ⟨(some 57), .call 39 [(.t 56)], none⟩
  (.fork ⟨(some 51), .ld none (.t 50), none⟩
  (.fork ⟨(some 58), .call 33 [(.t 53), (.t 55), (.t 57)], none⟩
  (.fork ⟨none, .mset (.one .i64) (.t 49) (.t 51) (.t 58), none⟩
  .done
  .nope)
  .nope)
  (.fork ⟨(some 58), .call 33 [(.t 53), (.t 55), (.t 57)], none⟩
  (.fork ⟨(some 51), .ld none (.t 50), none⟩
  (.fork ⟨none, .mset (.one .i64) (.t 49) (.t 51) (.t 58), none⟩
  .done
  .nope)
  .nope)
  .nope))
  .nope))
  .nope))
  .nope))
  .nope)))
  (.fork ⟨(some 54), .ld (some 5) (.t 11), none⟩
  (.fork ⟨(some 51), .ld none (.t 50), none⟩
  (.fork ⟨(some 53), .ld none (.t 52), none⟩
  (.fork ⟨(some 55), .call 40 [(.t 54)], none⟩
  (.fork ⟨(some 56), .ld (some 5) (.t 10), none⟩
  (.fork ⟨(some 57), .call 39 [(.t 56)], none⟩
  (.fork ⟨(some 58), .call 33 [(.t 53), (.t 55), (.t 57)], none⟩
  (.fork ⟨none, .mset (.one .i64) (.t 49) (.t 51) (.t 58), none⟩
  .done
  .nope)
  .nope)
  .nope)
  .nope)
  (.fork ⟨(some 56), .ld (some 5) (.t 10), none⟩
  (.fork ⟨(some 55), .call 40 [(.t 54)], none⟩
  (.fork ⟨(some 57), .call 39 [(.t 56)], none⟩
  (.fork ⟨(some 58), .call 33 [(.t 53), (.t 55), (.t 57)], none⟩
  (.fork ⟨none, .mset (.one .i64) (.t 49) (.t 51) (.t 58), none⟩
  .done
  .nope)
  .nope)
  .nope)
  .nope)
  .nope))
  (.fork ⟨(some 55), .call 40 [(.t 54)], none⟩
  (.fork ⟨(some 53), .ld none (.t 52), none⟩
  (.fork ⟨(some 56), .ld (some 5) (.t 10), none⟩
  (.fork ⟨(some 57), .call 39 [(.t 56)], none⟩
  (.fork ⟨(some 58), .call 33 [(.t 53), (.t 55), (.t 57)], none⟩
  (.fork ⟨none, .mset (.one .i64) (.t 49) (.t 51) (.t 58), none⟩
  .done
  .nope)
  .nope)
  .nope)
  .nope)
  (.fork ⟨(some 56), .ld (some 5) (.t 10), none⟩
  (.fork ⟨(some 53), .ld none (.t 52), none⟩
  (.fork ⟨(some 57), .call 39 [(.t 56)], none⟩
  (.fork ⟨(some 58), .call 33 [(.t 53), (.t 55), (.t 57)], none⟩
  (.fork ⟨none, .mset (.one .i64) (.t 49) (.t 51) (.t 58), none⟩
  .done
  .nope)
  .nope)
  .nope)
  (.fork ⟨(some 57), .call 39 [(.t 56)], none⟩
  (.fork ⟨(some 53), .ld none (.t 52), none⟩
  (.fork ⟨(some 58), .call 33 [(.t 53), (.t 55), (.t 57)], none⟩
  (.fork ⟨none, .mset (.one .i64) (.t 49) (.t 51) (.t 58), none⟩
  .done
  .nope)
  .nope)
  .nope)
  .nope))
  .nope))
  (.fork ⟨(some 56), .ld (some 5) (.t 10), none⟩
  (.fork ⟨(some 53), .ld none (.t 52), none⟩
  (.fork ⟨(some 55), .call 40 [(.t 54)], none⟩
  (.fork ⟨(some 57), .call 39 [(.t 56)], none⟩
  (.fork ⟨(some 58), .call 33 [(.t 53), (.t 55), (.t 57)], none⟩
  (.fork ⟨none, .mset (.one .i64) (.t 49) (.t 51) (.t 58), none⟩
  .done
  .nope)
  .nope)
  .nope)
  .nope)
  (.fork ⟨(some 55), .call 40 [(.t 54)], none⟩
  (.fork ⟨(some 53), .ld none (.t 52), none⟩
  (.fork ⟨(some 57), .call 39 [(.t 56)], none⟩
  (.fork ⟨(some 58), .call 33 [(.t 53), (.t 55), (.t 57)], none⟩
  (.fork ⟨none, .mset (.one .i64) (.t 49) (.t 51) (.t 58), none⟩
  .done
  .nope)
  .nope)
  .nope)
  (.fork ⟨(some 57), .call 39 [(.t 56)], none⟩
  (.fork ⟨(some 53), .ld none (.t 52), none⟩
  (.fork ⟨(some 58), .call 33 [(.t 53), (.t 55), (.t 57)], none⟩
  (.fork ⟨none, .mset (.one .i64) (.t 49) (.t 51) (.t 58), none⟩
  .done
  .nope)
  .nope)
  .nope)
  .nope))
  .nope))
  .nope)))
  (.fork ⟨(some 53), .ld none (.t 52), none⟩
  (.fork ⟨(some 51), .ld none (.t 50), none⟩
  (.fork ⟨(some 55), .call 40 [(.t 54)], none⟩
  (.fork ⟨(some 56), .ld (some 5) (.t 10), none⟩
  (.fork ⟨(some 57), .call 39 [(.t 56)], none⟩
  (.fork ⟨(some 58), .call 33 [(.t 53), (.t 55), (.t 57)], none⟩
  (.fork ⟨none, .mset (.one .i64) (.t 49) (.t 51) (.t 58), none⟩
  .done
  .nope)
  .nope)
  .nope)
  .nope)
  (.fork ⟨(some 56), .ld (some 5) (.t 10), none⟩
  (.fork ⟨(some 55), .call 40 [(.t 54)], none⟩
  (.fork ⟨(some 57), .call 39 [(.t 56)], none⟩
  (.fork ⟨(some 58), .call 33 [(.t 53), (.t 55), (.t 57)], none⟩
  (.fork ⟨none, .mset (.one .i64) (.t 49) (.t 51) (.t 58), none⟩
  .done
  .nope)
  .nope)
  .nope)
  .nope)
  .nope))
  (.fork ⟨(some 55), .call 40 [(.t 54)], none⟩
  (.fork ⟨(some 51), .ld none (.t 50), none⟩
  (.fork ⟨(some 56), .ld (some 5) (.t 10), none⟩
  (.fork ⟨(some 57), .call 39 [(.t 56)], none⟩
  (.fork ⟨(some 58), .call 33 [(.t 53), (.t 55), (.t 57)], none⟩
  (.fork ⟨none, .mset (.one .i64) (.t 49) (.t 51) (.t 58), none⟩
  .done
  .nope)
  .nope)
  .nope)
  .nope)
  (.fork ⟨(some 56), .ld (some 5) (.t 10), none⟩
  (.fork ⟨(some 51), .ld none (.t 50), none⟩
  (.fork ⟨(some 57), .call 39 [(.t 56)], none⟩
  (.fork ⟨(some 58), .call 33 [(.t 53), (.t 55), (.t 57)], none⟩
  (.fork ⟨none, .mset (.one .i64) (.t 49) (.t 51) (.t 58), none⟩
  .done
  .nope)
  .nope)
  .nope)
  (.fork ⟨(some 57), .call 39 [(.t 56)], none⟩
  (.fork ⟨(some 51), .ld none (.t 50), none⟩
  (.fork ⟨(some 58), .call 33 [(.t 53), (.t 55), (.t 57)], none⟩
  (.fork ⟨none, .mset (.one .i64) (.t 49) (.t 51) (.t 58), none⟩
  .done
  .nope)
  .nope)
  (.fork ⟨(some 58), .call 33 [(.t 53), (.t 55), (.t 57)], none⟩
  (.fork ⟨(some 51), .ld none (.t 50), none⟩
  (.fork ⟨none, .mset (.one .i64) (.t 49) (.t 51) (.t 58), none⟩
  .done
  .nope)
  .nope)
  .nope))
  .nope))
  .nope))
  (.fork ⟨(some 56), .ld (some 5) (.t 10), none⟩
  (.fork ⟨(some 51), .ld none (.t 50), none⟩
  (.fork ⟨(some 55), .call 40 [(.t 54)], none⟩
  (.fork ⟨(some 57), .call 39 [(.t 56)], none⟩
  (.fork ⟨(some 58), .call 33 [(.t 53), (.t 55), (.t 57)], none⟩
  (.fork ⟨none, .mset (.one .i64) (.t 49) (.t 51) (.t 58), none⟩
  .done
  .nope)
  .nope)
  .nope)
  .nope)
  (.fork ⟨(some 55), .call 40 [(.t 54)], none⟩
  (.fork ⟨(some 51), .ld none (.t 50), none⟩
  (.fork ⟨(some 57), .call 39 [(.t 56)], none⟩
  (.fork ⟨(some 58), .call 33 [(.t 53), (.t 55), (.t 57)], none⟩
  (.fork ⟨none, .mset (.one .i64) (.t 49) (.t 51) (.t 58), none⟩
  .done
  .nope)
  .nope)
  .nope)
  (.fork ⟨(some 57), .call 39 [(.t 56)], none⟩
  (.fork ⟨(some 51), .ld none (.t 50), none⟩
  (.fork ⟨(some 58), .call 33 [(.t 53), (.t 55), (.t 57)], none⟩
  (.fork ⟨none, .mset (.one .i64) (.t 49) (.t 51) (.t 58), none⟩
  .done
  .nope)
  .nope)
  (.fork ⟨(some 58), .call 33 [(.t 53), (.t 55), (.t 57)], none⟩
  (.fork ⟨(some 51), .ld none (.t 50), none⟩
  (.fork ⟨none, .mset (.one .i64) (.t 49) (.t 51) (.t 58), none⟩
  .done
  .nope)
  .nope)
  .nope))
  .nope))
  .nope))
  .nope)))
  (.fork ⟨(some 55), .call 40 [(.t 54)], none⟩
  (.fork ⟨(some 51), .ld none (.t 50), none⟩
  (.fork ⟨(some 53), .ld none (.t 52), none⟩
  (.fork ⟨(some 56), .ld (some 5) (.t 10), none⟩
  (.fork ⟨(some 57), .call 39 [(.t 56)], none⟩
  (.fork ⟨(some 58), .call 33 [(.t 53), (.t 55), (.t 57)], none⟩
  (.fork ⟨none, .mset (.one .i64) (.t 49) (.t 51) (.t 58), none⟩
  .done
  .nope)
  .nope)
  .nope)
  .nope)
  (.fork ⟨(some 56), .ld (some 5) (.t 10), none⟩
  (.fork ⟨(some 53), .ld none (.t 52), none⟩
  (.fork ⟨(some 57), .call 39 [(.t 56)], none⟩
  (.fork ⟨(some 58), .call 33 [(.t 53), (.t 55), (.t 57)], none⟩
  (.fork ⟨none, .mset (.one .i64) (.t 49) (.t 51) (.t 58), none⟩
  .done
  .nope)
  .nope)
  .nope)
  (.fork ⟨(some 57), .call 39 [(.t 56)], none⟩
  (.fork ⟨(some 53), .ld none (.t 52), none⟩
  (.fork ⟨(some 58), .call 33 [(.t 53), (.t 55), (.t 57)], none⟩
  (.fork ⟨none, .mset (.one .i64) (.t 49) (.t 51) (.t 58), none⟩
  .done
  .nope)
  .nope)
  .nope)
  .nope))
  .nope))
  (.fork ⟨(some 53), .ld none (.t 52), none⟩
  (.fork ⟨(some 51), .ld none (.t 50), none⟩
  (.fork ⟨(some 56), .ld (some 5) (.t 10), none⟩
  (.fork ⟨(some 57), .call 39 [(.t 56)], none⟩
  (.fork ⟨(some 58), .call 33 [(.t 53), (.t 55), (.t 57)], none⟩
  (.fork ⟨none, .mset (.one .i64) (.t 49) (.t 51) (.t 58), none⟩
  .done
  .nope)
  .nope)
  .nope)
  .nope)
  (.fork ⟨(some 56), .ld (some 5) (.t 10), none⟩
  (.fork ⟨(some 51), .ld none (.t 50), none⟩
  (.fork ⟨(some 57), .call 39 [(.t 56)], none⟩
  (.fork ⟨(some 58), .call 33 [(.t 53), (.t 55), (.t 57)], none⟩
  (.fork ⟨none, .mset (.one .i64) (.t 49) (.t 51) (.t 58), none⟩
  .done
  .nope)
  .nope)
  .nope)
  (.fork ⟨(some 57), .call 39 [(.t 56)], none⟩
  (.fork ⟨(some 51), .ld none (.t 50), none⟩
  (.fork ⟨(some 58), .call 33 [(.t 53), (.t 55), (.t 57)], none⟩
  (.fork ⟨none, .mset (.one .i64) (.t 49) (.t 51) (.t 58), none⟩
  .done
  .nope)
  .nope)
  (.fork ⟨(some 58), .call 33 [(.t 53), (.t 55), (.t 57)], none⟩
  (.fork ⟨(some 51), .ld none (.t 50), none⟩
  (.fork ⟨none, .mset (.one .i64) (.t 49) (.t 51) (.t 58), none⟩
  .done
  .nope)
  .nope)
  .nope))
  .nope))
  .nope))
  (.fork ⟨(some 56), .ld (some 5) (.t 10), none⟩
  (.fork ⟨(some 51), .ld none (.t 50), none⟩
  (.fork ⟨(some 53), .ld none (.t 52), none⟩
  (.fork ⟨(some 57), .call 39 [(.t 56)], none⟩
  (.fork ⟨(some 58), .call 33 [(.t 53), (.t 55), (.t 57)], none⟩
  (.fork ⟨none, .mset (.one .i64) (.t 49) (.t 51) (.t 58), none⟩
  .done
  .nope)
  .nope)
  .nope)
  (.fork ⟨(some 57), .call 39 [(.t 56)], none⟩
  (.fork ⟨(some 53), .ld none (.t 52), none⟩
  (.fork ⟨(some 58), .call 33 [(.t 53), (.t 55), (.t 57)], none⟩
  (.fork ⟨none, .mset (.one .i64) (.t 49) (.t 51) (.t 58), none⟩
  .done
  .nope)
  .nope)
  .nope)
  .nope))
  (.fork ⟨(some 53), .ld none (.t 52), none⟩
  (.fork ⟨(some 51), .ld none (.t 50), none⟩
  (.fork ⟨(some 57), .call 39 [(.t 56)], none⟩
  (.fork ⟨(some 58), .call 33 [(.t 53), (.t 55), (.t 57)], none⟩
  (.fork ⟨none, .mset (.one .i64) (.t 49) (.t 51) (.t 58), none⟩
  .done
  .nope)
  .nope)
  .nope)
  (.fork ⟨(some 57), .call 39 [(.t 56)], none⟩
  (.fork ⟨(some 51), .ld none (.t 50), none⟩
  (.fork ⟨(some 58), .call 33 [(.t 53), (.t 55), (.t 57)], none⟩
  (.fork ⟨none, .mset (.one .i64) (.t 49) (.t 51) (.t 58), none⟩
  .done
  .nope)
  .nope)
  (.fork ⟨(some 58), .call 33 [(.t 53), (.t 55), (.t 57)], none⟩
  (.fork ⟨(some 51), .ld none (.t 50), none⟩
  (.fork ⟨none, .mset (.one .i64) (.t 49) (.t 51) (.t 58), none⟩
  .done
  .nope)
  .nope)
  .nope))
  .nope))
  (.fork ⟨(some 57), .call 39 [(.t 56)], none⟩
  (.fork ⟨(some 51), .ld none (.t 50), none⟩
  (.fork ⟨(some 53), .ld none (.t 52), none⟩
  (.fork ⟨(some 58), .call 33 [(.t 53), (.t 55), (.t 57)], none⟩
  (.fork ⟨none, .mset (.one .i64) (.t 49) (.t 51) (.t 58), none⟩
  .done
  .nope)
  .nope)
  .nope)
  (.fork ⟨(some 53), .ld none (.t 52), none⟩
  (.fork ⟨(some 51), .ld none (.t 50), none⟩
  (.fork ⟨(some 58), .call 33 [(.t 53), (.t 55), (.t 57)], none⟩
  (.fork ⟨none, .mset (.one .i64) (.t 49) (.t 51) (.t 58), none⟩
  .done
  .nope)
  .nope)
  (.fork ⟨(some 58), .call 33 [(.t 53), (.t 55), (.t 57)], none⟩
  (.fork ⟨(some 51), .ld none (.t 50), none⟩
  (.fork ⟨none, .mset (.one .i64) (.t 49) (.t 51) (.t 58), none⟩
  .done
  .nope)
  .nope)
  .nope))
  .nope))
  .nope)))
  .nope)))
  (.fork ⟨(some 56), .ld (some 5) (.t 10), none⟩
  (.fork ⟨(some 51), .ld none (.t 50), none⟩
  (.fork ⟨(some 53), .ld none (.t 52), none⟩
  (.fork ⟨(some 55), .call 40 [(.t 54)], none⟩
  (.fork ⟨(some 57), .call 39 [(.t 56)], none⟩
  (.fork ⟨(some 58), .call 33 [(.t 53), (.t 55), (.t 57)], none⟩
  (.fork ⟨none, .mset (.one .i64) (.t 49) (.t 51) (.t 58), none⟩
  .done
  .nope)
  .nope)
  .nope)
  .nope)
  (.fork ⟨(some 55), .call 40 [(.t 54)], none⟩
  (.fork ⟨(some 53), .ld none (.t 52), none⟩
  (.fork ⟨(some 57), .call 39 [(.t 56)], none⟩
  (.fork ⟨(some 58), .call 33 [(.t 53), (.t 55), (.t 57)], none⟩
  (.fork ⟨none, .mset (.one .i64) (.t 49) (.t 51) (.t 58), none⟩
  .done
  .nope)
  .nope)
  .nope)
  (.fork ⟨(some 57), .call 39 [(.t 56)], none⟩
  (.fork ⟨(some 53), .ld none (.t 52), none⟩
  (.fork ⟨(some 58), .call 33 [(.t 53), (.t 55), (.t 57)], none⟩
  (.fork ⟨none, .mset (.one .i64) (.t 49) (.t 51) (.t 58), none⟩
  .done
  .nope)
  .nope)
  .nope)
  .nope))
  .nope))
  (.fork ⟨(some 53), .ld none (.t 52), none⟩
  (.fork ⟨(some 51), .ld none (.t 50), none⟩
  (.fork ⟨(some 55), .call 40 [(.t 54)], none⟩
  (.fork ⟨(some 57), .call 39 [(.t 56)], none⟩
  (.fork ⟨(some 58), .call 33 [(.t 53), (.t 55), (.t 57)], none⟩
  (.fork ⟨none, .mset (.one .i64) (.t 49) (.t 51) (.t 58), none⟩
  .done
  .nope)
  .nope)
  .nope)
  .nope)
  (.fork ⟨(some 55), .call 40 [(.t 54)], none⟩
  (.fork ⟨(some 51), .ld none (.t 50), none⟩
  (.fork ⟨(some 57), .call 39 [(.t 56)], none⟩
  (.fork ⟨(some 58), .call 33 [(.t 53), (.t 55), (.t 57)], none⟩
  (.fork ⟨none, .mset (.one .i64) (.t 49) (.t 51) (.t 58), none⟩
  .done
  .nope)
  .nope)
  .nope)
  (.fork ⟨(some 57), .call 39 [(.t 56)], none⟩
  (.fork ⟨(some 51), .ld none (.t 50), none⟩
  (.fork ⟨(some 58), .call 33 [(.t 53), (.t 55), (.t 57)], none⟩
  (.fork ⟨none, .mset (.one .i64) (.t 49) (.t 51) (.t 58), none⟩
  .done
  .nope)
  .nope)
  (.fork ⟨(some 58), .call 33 [(.t 53), (.t 55), (.t 57)], none⟩
  (.fork ⟨(some 51), .ld none (.t 50), none⟩
  (.fork ⟨none, .mset (.one .i64) (.t 49) (.t 51) (.t 58), none⟩
  .done
  .nope)
  .nope)
  .nope))
  .nope))
  .nope))
  (.fork ⟨(some 55), .call 40 [(.t 54)], none⟩
  (.fork ⟨(some 51), .ld none (.t 50), none⟩
  (.fork ⟨(some 53), .ld none (.t 52), none⟩
  (.fork ⟨(some 57), .call 39 [(.t 56)], none⟩
  (.fork ⟨(some 58), .call 33 [(.t 53), (.t 55), (.t 57)], none⟩
  (.fork ⟨none, .mset (.one .i64) (.t 49) (.t 51) (.t 58), none⟩
  .done
  .nope)
  .nope)
  .nope)
  (.fork ⟨(some 57), .call 39 [(.t 56)], none⟩
  (.fork ⟨(some 53), .ld none (.t 52), none⟩
  (.fork ⟨(some 58), .call 33 [(.t 53), (.t 55), (.t 57)], none⟩
  (.fork ⟨none, .mset (.one .i64) (.t 49) (.t 51) (.t 58), none⟩
  .done
  .nope)
  .nope)
  .nope)
  .nope))
  (.fork ⟨(some 53), .ld none (.t 52), none⟩
  (.fork ⟨(some 51), .ld none (.t 50), none⟩
  (.fork ⟨(some 57), .call 39 [(.t 56)], none⟩
  (.fork ⟨(some 58), .call 33 [(.t 53), (.t 55), (.t 57)], none⟩
  (.fork ⟨none, .mset (.one .i64) (.t 49) (.t 51) (.t 58), none⟩
  .done
  .nope)
  .nope)
  .nope)
  (.fork ⟨(some 57), .call 39 [(.t 56)], none⟩
  (.fork ⟨(some 51), .ld none (.t 50), none⟩
  (.fork ⟨(some 58), .call 33 [(.t 53), (.t 55), (.t 57)], none⟩
  (.fork ⟨none, .mset (.one .i64) (.t 49) (.t 51) (.t 58), none⟩
  .done
  .nope)
  .nope)
  (.fork ⟨(some 58), .call 33 [(.t 53), (.t 55), (.t 57)], none⟩
  (.fork ⟨(some 51), .ld none (.t 50), none⟩
  (.fork ⟨none, .mset (.one .i64) (.t 49) (.t 51) (.t 58), none⟩
  .done
  .nope)
  .nope)
  .nope))
  .nope))
  (.fork ⟨(some 57), .call 39 [(.t 56)], none⟩
  (.fork ⟨(some 51), .ld none (.t 50), none⟩
  (.fork ⟨(some 53), .ld none (.t 52), none⟩
  (.fork ⟨(some 58), .call 33 [(.t 53), (.t 55), (.t 57)], none⟩
  (.fork ⟨none, .mset (.one .i64) (.t 49) (.t 51) (.t 58), none⟩
  .done
  .nope)
  .nope)
  .nope)
  (.fork ⟨(some 53), .ld none (.t 52), none⟩
  (.fork ⟨(some 51), .ld none (.t 50), none⟩
  (.fork ⟨(some 58), .call 33 [(.t 53), (.t 55), (.t 57)], none⟩
  (.fork ⟨none, .mset (.one .i64) (.t 49) (.t 51) (.t 58), none⟩
  .done
  .nope)
  .nope)
  (.fork ⟨(some 58), .call 33 [(.t 53), (.t 55), (.t 57)], none⟩
  (.fork ⟨(some 51), .ld none (.t 50), none⟩
  (.fork ⟨none, .mset (.one .i64) (.t 49) (.t 51) (.t 58), none⟩
  .done
  .nope)
  .nope)
  .nope))
  .nope))
  .nope)))
  .nope)))
  .nope))))
  (.fork ⟨(some 56), .ld (some 5) (.t 10), none⟩
  (.fork ⟨(some 51), .ld none (.t 50), none⟩
  (.fork ⟨(some 53), .ld none (.t 52), none⟩
  (.fork ⟨(some 54), .ld (some 5) (.t 11), none⟩
  (.fork ⟨(some 55), .call 40 [(.t 54)], none⟩
  (.fork ⟨(some 57), .call 39 [(.t 56)], none⟩
  (.fork ⟨(some 58), .call 33 [(.t 53), (.t 55), (.t 57)], none⟩
  (.fork ⟨none, .mset (.one .i64) (.t 49) (.t 51) (.t 58), none⟩
  .done
  .nope)
  .nope)
  .nope)
  .nope)
  .nope)
  (.fork ⟨(some 54), .ld (some 5) (.t 11), none⟩
  (.fork ⟨(some 53), .ld none (.t 52), none⟩
  (.fork ⟨(some 55), .call 40 [(.t 54)], none⟩
  (.fork ⟨(some 57), .call 39 [(.t 56)], none⟩
  (.fork ⟨(some 58), .call 33 [(.t 53), (.t 55), (.t 57)], none⟩
  (.fork ⟨none, .mset (.one .i64) (.t 49) (.t 51) (.t 58), none⟩
  .done
  .nope)
  .nope)
  .nope)
  .nope)
  (.fork ⟨(some 55), .call 40 [(.t 54)], none⟩
  (.fork ⟨(some 53), .ld none (.t 52), none⟩
  (.fork ⟨(some 57), .call 39 [(.t 56)], none⟩
  (.fork ⟨(some 58), .call 33 [(.t 53), (.t 55), (.t 57)], none⟩
  (.fork ⟨none, .mset (.one .i64) (.t 49) (.t 51) (.t 58), none⟩
  .done
  .nope)
  .nope)
  .nope)
  (.fork ⟨(some 57), .call 39 [(.t 56)], none⟩
  (.fork ⟨(some 53), .ld none (.t 52), none⟩
  (.fork ⟨(some 58), .call 33 [(.t 53), (.t 55), (.t 57)], none⟩
  (.fork ⟨none, .mset (.one .i64) (.t 49) (.t 51) (.t 58), none⟩
  .done
  .nope)
  .nope)
  .nope)
  .nope))
  .nope))
  .nope))
  (.fork ⟨(some 53), .ld none (.t 52), none⟩
  (.fork ⟨(some 51), .ld none (.t 50), none⟩
  (.fork ⟨(some 54), .ld (some 5) (.t 11), none⟩
  (.fork ⟨(some 55), .call 40 [(.t 54)], none⟩
  (.fork ⟨(some 57), .call 39 [(.t 56)], none⟩
  (.fork ⟨(some 58), .call 33 [(.t 53), (.t 55), (.t 57)], none⟩
  (.fork ⟨none, .mset (.one .i64) (.t 49) (.t 51) (.t 58), none⟩
  .done
  .nope)
  .nope)
  .nope)
  .nope)
  .nope)
  (.fork ⟨(some 54), .ld (some 5) (.t 11), none⟩
  (.fork ⟨(some 51), .ld none (.t 50), none⟩
  (.fork ⟨(some 55), .call 40 [(.t 54)], none⟩
  (.fork ⟨(some 57), .call 39 [(.t 56)], none⟩
  (.fork ⟨(some 58), .call 33 [(.t 53), (.t 55), (.t 57)], none⟩
  (.fork ⟨none, .mset (.one .i64) (.t 49) (.t 51) (.t 58), none⟩
  .done
  .nope)
  .nope)
  .nope)
  .nope)
  (.fork ⟨(some 55), .call 40 [(.t 54)], none⟩
  (.fork ⟨(some 51), .ld none (.t 50), none⟩
  (.fork ⟨(some 57), .call 39 [(.t 56)], none⟩
  (.fork ⟨(some 58), .call 33 [(.t 53), (.t 55), (.t 57)], none⟩
  (.fork ⟨none, .mset (.one .i64) (.t 49) (.t 51) (.t 58), none⟩
  .done
  .nope)
  .nope)
  .nope)
  (.fork ⟨(some 57), .call 39 [(.t 56)], none⟩
  (.fork ⟨(some 51), .ld none (.t 50), none⟩
  (.fork ⟨(some 58), .call 33 [(.t 53), (.t 55), (.t 57)], none⟩
  (.fork ⟨none, .mset (.one .i64) (.t 49) (.t 51) (.t 58), none⟩
  .done
  .nope)
  .nope)
  (.fork ⟨(some 58), .call 33 [(.t 53), (.t 55), (.t 57)], none⟩
  (.fork ⟨(some 51), .ld none (.t 50), none⟩
  (.fork ⟨none, .mset (.one .i64) (.t 49) (.t 51) (.t 58), none⟩
  .done
  .nope)
  .nope)
  .nope))
  .nope))
  .nope))
  .nope))
  (.fork ⟨(some 54), .ld (some 5) (.t 11), none⟩
  (.fork ⟨(some 51), .ld none (.t 50), none⟩
  (.fork ⟨(some 53), .ld none (.t 52), none⟩
  (.fork ⟨(some 55), .call 40 [(.t 54)], none⟩
  (.fork ⟨(some 57), .call 39 [(.t 56)], none⟩
  (.fork ⟨(some 58), .call 33 [(.t 53), (.t 55), (.t 57)], none⟩
  (.fork ⟨none, .mset (.one .i64) (.t 49) (.t 51) (.t 58), none⟩
  .done
  .nope)
  .nope)
  .nope)
  .nope)
  (.fork ⟨(some 55), .call 40 [(.t 54)], none⟩
  (.fork ⟨(some 53), .ld none (.t 52), none⟩
  (.fork ⟨(some 57), .call 39 [(.t 56)], none⟩
  (.fork ⟨(some 58), .call 33 [(.t 53), (.t 55), (.t 57)], none⟩
  (.fork ⟨none, .mset (.one .i64) (.t 49) (.t 51) (.t 58), none⟩
  .done
  .nope)
  .nope)
  .nope)
  (.fork ⟨(some 57), .call 39 [(.t 56)], none⟩
  (.fork ⟨(some 53), .ld none (.t 52), none⟩
  (.fork ⟨(some 58), .call 33 [(.t 53), (.t 55), (.t 57)], none⟩
  (.fork ⟨none, .mset (.one .i64) (.t 49) (.t 51) (.t 58), none⟩
  .done
  .nope)
  .nope)
  .nope)
  .nope))
  .nope))
  (.fork ⟨(some 53), .ld none (.t 52), none⟩
  (.fork ⟨(some 51), .ld none (.t 50), none⟩
  (.fork ⟨(some 55), .call 40 [(.t 54)], none⟩
  (.fork ⟨(some 57), .call 39 [(.t 56)], none⟩
  (.fork ⟨(some 58), .call 33 [(.t 53), (.t 55), (.t 57)], none⟩
  (.fork ⟨none, .mset (.one .i64) (.t 49) (.t 51) (.t 58), none⟩
  .done
  .nope)
  .nope)
  .nope)
  .nope)
  (.fork ⟨(some 55), .call 40 [(.t 54)], none⟩
  (.fork ⟨(some 51), .ld none (.t 50), none⟩
  (.fork ⟨(some 57), .call 39 [(.t 56)], none⟩
  (.fork ⟨(some 58), .call 33 [(.t 53), (.t 55), (.t 57)], none⟩
  (.fork ⟨none, .mset (.one .i64) (.t 49) (.t 51) (.t 58), none⟩
  .done
  .nope)
  .nope)
  .nope)
  (.fork ⟨(some 57), .call 39 [(.t 56)], none⟩
  (.fork ⟨(some 51), .ld none (.t 50), none⟩
  (.fork ⟨(some 58), .call 33 [(.t 53), (.t 55), (.t 57)], none⟩
  (.fork ⟨none, .mset (.one .i64) (.t 49) (.t 51) (.t 58), none⟩
  .done
  .nope)
  .nope)
  (.fork ⟨(some 58), .call 33 [(.t 53), (.t 55), (.t 57)], none⟩
  (.fork ⟨(some 51), .ld none (.t 50), none⟩
  (.fork ⟨none, .mset (.one .i64) (.t 49) (.t 51) (.t 58), none⟩
  .done
  .nope)
  .nope)
  .nope))
  .nope))
  .nope))
  (.fork ⟨(some 55), .call 40 [(.t 54)], none⟩
  (.fork ⟨(some 51), .ld none (.t 50), none⟩
  (.fork ⟨(some 53), .ld none (.t 52), none⟩
  (.fork ⟨(some 57), .call 39 [(.t 56)], none⟩
  (.fork ⟨(some 58), .call 33 [(.t 53), (.t 55), (.t 57)], none⟩
  (.fork ⟨none, .mset (.one .i64) (.t 49) (.t 51) (.t 58), none⟩
  .done
  .nope)
  .nope)
  .nope)
  (.fork ⟨(some 57), .call 39 [(.t 56)], none⟩
  (.fork ⟨(some 53), .ld none (.t 52), none⟩
  (.fork ⟨(some 58), .call 33 [(.t 53), (.t 55), (.t 57)], none⟩
  (.fork ⟨none, .mset (.one .i64) (.t 49) (.t 51) (.t 58), none⟩
  .done
  .nope)
  .nope)
  .nope)
  .nope))
  (.fork ⟨(some 53), .ld none (.t 52), none⟩
  (.fork ⟨(some 51), .ld none (.t 50), none⟩
  (.fork ⟨(some 57), .call 39 [(.t 56)], none⟩
  (.fork ⟨(some 58), .call 33 [(.t 53), (.t 55), (.t 57)], none⟩
  (.fork ⟨none, .mset (.one .i64) (.t 49) (.t 51) (.t 58), none⟩
  .done
  .nope)
  .nope)
  .nope)
  (.fork ⟨(some 57), .call 39 [(.t 56)], none⟩
  (.fork ⟨(some 51), .ld none (.t 50), none⟩
  (.fork ⟨(some 58), .call 33 [(.t 53), (.t 55), (.t 57)], none⟩
  (.fork ⟨none, .mset (.one .i64) (.t 49) (.t 51) (.t 58), none⟩
  .done
  .nope)
  .nope)
  (.fork ⟨(some 58), .call 33 [(.t 53), (.t 55), (.t 57)], none⟩
  (.fork ⟨(some 51), .ld none (.t 50), none⟩
  (.fork ⟨none, .mset (.one .i64) (.t 49) (.t 51) (.t 58), none⟩
  .done
  .nope)
  .nope)
  .nope))
  .nope))
  (.fork ⟨(some 57), .call 39 [(.t 56)], none⟩
  (.fork ⟨(some 51), .ld none (.t 50), none⟩
  (.fork ⟨(some 53), .ld none (.t 52), none⟩
  (.fork ⟨(some 58), .call 33 [(.t 53), (.t 55), (.t 57)], none⟩
  (.fork ⟨none, .mset (.one .i64) (.t 49) (.t 51) (.t 58), none⟩
  .done
  .nope)
  .nope)
  .nope)
  (.fork ⟨(some 53), .ld none (.t 52), none⟩
  (.fork ⟨(some 51), .ld none (.t 50), none⟩
  (.fork ⟨(some 58), .call 33 [(.t 53), (.t 55), (.t 57)], none⟩
  (.fork ⟨none, .mset (.one .i64) (.t 49) (.t 51) (.t 58), none⟩
  .done
  .nope)
  .nope)
  (.fork ⟨(some 58), .call 33 [(.t 53), (.t 55), (.t 57)], none⟩
  (.fork ⟨(some 51), .ld none (.t 50), none⟩
  (.fork ⟨none, .mset (.one .i64) (.t 49) (.t 51) (.t 58), none⟩
  .done
  .nope)
  .nope)
  .nope))
  .nope))
  .nope)))
  .nope)))
  .nope)))
  .nope)))))))
abbrev c29_35 : AC := .cond (.t 72) c29_33 c29_34
abbrev c29_36 : AC := .seq c29_32 c29_35
abbrev c29_37 : AC := .cond (.t 66) c29_31 c29_36
abbrev c29_38 : AC := .seq c29_29 c29_37
abbrev c29_39 : AC := .cond (.t 59) c29_28 c29_38
abbrev c29_40 : AC := .seq c29_27 c29_39
abbrev c29_41 : AC := .block 4 c29_40
abbrev c29_42 : AC := .seq c29_26 c29_41
abbrev c29_43 : AC := .seq c29_25 c29_42
abbrev c29_44 : AC := .block 3 c29_43
abbrev c29_45 : AC := .reg [⟨(some 81), .bin .add (.t 38) (.k (.I 1)), none⟩,
  ⟨(some 38), .mv (.t 81), none⟩] false
abbrev c29_46 : AC := .seq c29_44 c29_45
abbrev c29_47 : AC := .seq c29_24 c29_46
abbrev c29_48 : AC := .seq c29_23 c29_47
abbrev c29_49 : AC := .loop c29_48
abbrev c29_50 : AC := .block 2 c29_49
abbrev c29_51 : AC := .seq c29_22 c29_50
abbrev c29_52 : AC := .reg [⟨(some 82), .mv (.t 6), none⟩,
  ⟨(some 83), .mlen (.t 82), none⟩,
  ⟨(some 84), .bin .gtr (.t 83) (.k (.I 64)), none⟩] false
abbrev c29_53 : AC := .reg [⟨(some 4), .mv (.k (.c .nil)), none⟩,
  ⟨(some 5), .mv (.k (.I 6)), none⟩] false
abbrev c29_54 : AC := .seq c29_53 .ret
abbrev c29_55 : AC := .cond (.t 84) c29_54 .skip
abbrev c29_56 : AC := .seq c29_52 c29_55
abbrev c29_57 : AC := .reg [⟨(some 13), .mv (.k (.c .nil)), none⟩] false
abbrev c29_58 : AC := .reg [⟨(some 85), .mv (.t 6), none⟩,
  ⟨(some 86), .call 48 [(.t 85)], none⟩,
  ⟨(some 87), .call 47 [(.t 86)], none⟩,
  ⟨(some 88), .len (.t 87), none⟩,
  ⟨(some 89), .mv (.k (.I 0)), none⟩] false
abbrev c29_59 : AC := .reg [⟨(some 90), .bin .lss (.t 89) (.t 88), none⟩] false
abbrev c29_60 : AC := .cond (.t 90) .skip (.exit 5)
abbrev c29_61 : AC := .reg [⟨(some 91), .iad 1 (.t 87) (.t 89), none⟩,
  ⟨(some 92), .ld none (.t 91), none⟩,
  ⟨(some 15), .mv (.t 92), none⟩] false
abbrev c29_62 : AC := .reg [⟨(some 93), .mv (.t 13), none⟩,
  ⟨(some 94), .mv (.t 6), none⟩,
  ⟨(some 95), .mv (.t 15), none⟩,
  ⟨(some 96), .look (.one .i64) (.inr [(.sc (.int .i64 0)), (.sc (.int .i64 0)), (.sc (.int .i64 0)), (.sc (.bool false)), (.sc (.bool false))]) false (.t 94) (.t 95), none⟩,
  ⟨(some 97), .bslice 51 5 [(.t 96)], none⟩,
  ⟨(some 98), .app 51 5 32 (.t 93) (.t 97), none⟩,
  ⟨(some 13), .mv (.t 98), none⟩] false
abbrev c29_63 : AC := .seq c29_61 c29_62
abbrev c29_64 : AC := .block 6 c29_63
abbrev c29_65 : AC := .reg [⟨(some 99), .bin .add (.t 89) (.k (.I 1)), none⟩,
  ⟨(some 89), .mv (.t 99), none⟩] false
abbrev c29_66 : AC := .seq c29_64 c29_65
abbrev c29_67 : AC := .seq c29_60 c29_66
abbrev c29_68 : AC := .seq c29_59 c29_67
abbrev c29_69 : AC := .loop c29_68
abbrev c29_70 : AC := .block 5 c29_69
abbrev c29_71 : AC := .seq c29_58 c29_70
abbrev c29_72 : AC := .reg [⟨(some 100), .mv (.t 13), none⟩,
  ⟨(some 4), .mv (.t 100), none⟩,
  ⟨(some 5), .mv (.k (.I 0)), none⟩] false
abbrev c29_73 : AC := .seq c29_72 .ret
abbrev c29_74 : AC := .seq c29_71 c29_73
abbrev c29_75 : AC := .seq c29_57 c29_74
abbrev c29_76 : AC := .seq c29_56 c29_75
abbrev c29_77 : AC := .seq c29_51 c29_76
abbrev c29_78 : AC := .seq c29_21 c29_77
abbrev c29_79 : AC := .seq c29_7 c29_78
abbrev c29_80 : AC := .seq c29_6 c29_79
abbrev c29_81 : AC := .seq c29_1 c29_80
abbrev c29 : AC := c29_81
theorem code29 : fnCode Try.prog 29 = some (c29, [4, 5], 101) := by kernel_rfl
/- coinage/coinageref12.Compose -/
abbrev c30_1 : AC := .reg [⟨(some 4), .mv (.k (.c .nil)), none⟩,
  ⟨(some 5), .mv (.k (.I 0)), none⟩] false
abbrev c30_2 : AC := .reg [⟨(some 13), .mv (.t 0), none⟩,
  ⟨(some 14), .call 26 [(.t 13)], none⟩,
  ⟨(some 15), .not (.t 14), none⟩,
  ⟨(some 16), .mv (.t 15), none⟩,
  ⟨(some 17), .mv (.t 1), (some (16, false))⟩,
  ⟨(some 18), .call 26 [(.t 17)], (some (16, false))⟩,
  ⟨(some 19), .not (.t 18), (some (16, false))⟩,
  ⟨(some 20), .pick (.t 16) (.k (.B true)) (.t 19), none⟩] false
abbrev c30_3 : AC := .reg [⟨(some 4), .mv (.k (.c .nil)), none⟩,
  ⟨(some 5), .mv (.k (.I 1)), none⟩] false
abbrev c30_4 : AC := .seq c30_3 .ret
abbrev c30_5 : AC := .cond (.t 20) c30_4 .skip
abbrev c30_6 : AC := .seq c30_2 c30_5
abbrev c30_7 : AC := .reg [⟨(some 6), .mv (.k (.c .nil)), none⟩] false
abbrev c30_8 : AC := .reg [⟨(some 7), .mv (.k (.I 0)), none⟩] false
abbrev c30_9 : AC := .reg [⟨(some 21), .mv (.t 7), none⟩,
  ⟨(some 22), .mv (.t 0), none⟩,
  ⟨(some 23), .len (.t 22), none⟩,
  ⟨(some 24), .bin .lss (.t 21) (.t 23), none⟩] false
abbrev c30_10 : AC := .cond (.t 24) .skip (.exit 0)
abbrev c30_11 : AC := .seq c30_9 c30_10
abbrev c30_12 : AC := .reg [⟨(some 27), .mv (.t 6), none⟩,
  ⟨(some 28), .mv (.t 0), none⟩,
  ⟨(some 29), .mv (.t 7), none⟩,
  ⟨(some 30), .iad 5 (.t 28) (.t 29), none⟩,
  ⟨(some 31), .fad 0 (.t 30), none⟩,
  ⟨(some 32), .ld none (.t 31), none⟩,
  ⟨(some 33), .call 45 [(.t 27), (.t 32)], none⟩,
  ⟨(some 6), .mv (.t 33), none⟩] false
abbrev c30_13 : AC := .block 1 c30_12
abbrev c30_14 : AC := .reg [⟨(some 25), .mv (.t 7), none⟩,
  ⟨(some 26), .bin .add (.t 25) (.k (.I 1)), none⟩,
  ⟨(some 7), .mv (.t 26), none⟩] false
abbrev c30_15 : AC := .seq c30_13 c30_14
abbrev c30_16 : AC := .seq c30_11 c30_15
abbrev c30_17 : AC := .loop c30_16
abbrev c30_18 : AC := .block 0 c30_17
abbrev c30_19 : AC := .seq c30_8 c30_18
abbrev c30_20 : AC := .reg [⟨(some 8), .mv (.k (.I 0)), none⟩] false
abbrev c30_21 : AC := .reg [⟨(some 34), .mv (.t 8), none⟩,
  ⟨(some 35), .mv (.t 1), none⟩,
  ⟨(some 36), .len (.t 35), none⟩,
  ⟨(some 37), .bin .lss (.t 34) (.t 36), none⟩] false
abbrev c30_22 : AC := .cond (.t 37) .skip (.exit 2)
abbrev c30_23 : AC := .seq c30_21 c30_22
abbrev c30_24 : AC := .reg [⟨(some 40), .mv (.t 6), none⟩,
  ⟨(some 41), .mv (.t 1), none⟩,
  ⟨(some 42), .mv (.t 8), none⟩,
  ⟨(some 43), .iad 5 (.t 41) (.t 42), none⟩,
  ⟨(some 44), .fad 0 (.t 43), none⟩,
  ⟨(some 45), .ld none (.t 44), none⟩,
  ⟨(some 46), .call 45 [(.t 40), (.t 45)], none⟩,
  ⟨(some 6), .mv (.t 46), none⟩] false
abbrev c30_25 : AC := .block 3 c30_24
abbrev c30_26 : AC := .reg [⟨(some 38), .mv (.t 8), none⟩,
  ⟨(some 39), .bin .add (.t 38) (.k (.I 1)), none⟩,
  ⟨(some 8), .mv (.t 39), none⟩] false
abbrev c30_27 : AC := .seq c30_25 c30_26
abbrev c30_28 : AC := .seq c30_23 c30_27
abbrev c30_29 : AC := .loop c30_28
abbrev c30_30 : AC := .block 2 c30_29
abbrev c30_31 : AC := .seq c30_20 c30_30
abbrev c30_32 : AC := .reg [⟨(some 9), .mv (.k (.c .nil)), none⟩] false
abbrev c30_33 : AC := .reg [⟨(some 10), .mv (.k (.I 0)), none⟩] false
abbrev c30_34 : AC := .reg [⟨(some 47), .mv (.t 10), none⟩,
  ⟨(some 48), .mv (.t 6), none⟩,
  ⟨(some 49), .len (.t 48), none⟩,
  ⟨(some 50), .bin .lss (.t 47) (.t 49), none⟩] false
abbrev c30_35 : AC := .cond (.t 50) .skip (.exit 4)
abbrev c30_36 : AC := .seq c30_34 c30_35
abbrev c30_37 : AC := .regD [(⟨(some 53), .mv (.t 0), none⟩, [0]),
  (⟨(some 54), .mv (.t 6), none⟩, [6]),
  (⟨(some 55), .mv (.t 10), none⟩, [10]),
  (⟨(some 56), .iad 1 (.t 54) (.t 55), none⟩, [54, 55]),
  (⟨(some 57), .ld none (.t 56), none⟩, [56]),
  (⟨(some 58), .call 46 [(.t 53), (.t 57)], none⟩, [53, 57]),
  (⟨(some 59), .mv (.t 1), none⟩, [1]),
  (⟨(some 60), .mv (.t 6), none⟩, [6]),
  (⟨(some 61), .mv (.t 10), none⟩, [10]),
  (⟨(some 62), .iad 1 (.t 60) (.t 61), none⟩, [60, 61]),
  (⟨(some 63), .ld none (.t 62), none⟩, [62]),
  (⟨(some 64), .call 46 [(.t 59), (.t 63)], none⟩, [59, 63]),
  (⟨(some 11), .mv (.t 58), none⟩, [58]),
  (⟨(some 12), .mv (.t 64), none⟩, [64])]
abbrev c30_38 : AC := .reg [⟨(some 82), .mv (.t 12), none⟩,
  ⟨(some 83), .bin .lss (.t 82) (.k (.I 0)), none⟩,
  ⟨(some 81), .mv (.t 83), none⟩] false
abbrev c30_39 : AC := .reg [⟨(some 84), .mv (.t 9), none⟩,
  ⟨(some 85), .mv (.t 0), none⟩,
  ⟨(some 86), .mv (.t 11), none⟩,
  ⟨(some 87), .iad 5 (.t 85) (.t 86), none⟩,
  ⟨(some 88), .ld (some 5) (.t 87), none⟩,
  ⟨(some 89), .bslice 51 5 [(.t 88)], none⟩,
  ⟨(some 90), .app 51 5 32 (.t 84) (.t 89), none⟩,
  ⟨(some 9), .mv (.t 90), none⟩] false
abbrev c30_40 : AC := .reg [⟨(some 92), .mv (.t 11), none⟩,
  ⟨(some 93), .bin .lss (.t 92) (.k (.I 0)), none⟩,
  ⟨(some 91), .mv (.t 93), none⟩] false
abbrev c30_41 : AC := .reg [⟨(some 94), .mv (.t 9), none⟩,
  ⟨(some 95), .mv (.t 1), none⟩,
  ⟨(some 96), .mv (.t 12), none⟩,
  ⟨(some 97), .iad 5 (.t 95) (.t 96), none⟩,
  ⟨(some 98), .ld (some 5) (.t 97), none⟩,
  ⟨(some 99), .bslice 51 5 [(.t 98)], none⟩,
  ⟨(some 100), .app 51 5 32 (.t 94) (.t 99), none⟩,
  ⟨(some 9), .mv (.t 100), none⟩] false
abbrev c30_42 : AC := .regD [(⟨(some 102), .mv (.t 0), none⟩, [0]),
  (⟨(some 103), .mv (.t 11), none⟩, [11]),
  (⟨(some 104), .iad 5 (.t 102) (.t 103), none⟩, [102, 103]),
  (⟨(some 105), .ld (some 5) (.t 104), none⟩, [104]),
  (⟨(some 106), .call 41 [(.t 105)], none⟩, [105]),
  (⟨(some 107), .mv (.t 1), none⟩, [1]),
  (⟨(some 108), .mv (.t 12), none⟩, [12]),
  (⟨(some 109), .iad 5 (.t 107) (.t 108), none⟩, [107, 108]),
  (⟨(some 110), .ld (some 5) (.t 109), none⟩, [109]),
  (⟨(some 111), .call 42 [(.t 110)], none⟩, [110]),
  (⟨(some 112), .eqs true [false, true] (.t 106) (.t 111), none⟩, [106, 111]),
  (⟨(some 101), .mv (.t 112), none⟩, [112])]
abbrev c30_43 : AC := .reg [⟨(some 4), .mv (.k (.c .nil)), none⟩,
  ⟨(some 5), .mv (.k (.I 10)), none⟩] false
abbrev c30_44 : AC := .seq c30_43 .ret
abbrev c30_45 : AC := .regD [(⟨(some 65), .mv (.t 9), none⟩, [9]),
  (⟨(some 66), .mv (.t 6), none⟩, [6]),
  (⟨(some 67), .mv (.t 10), none⟩, [10]),
  (⟨(some 68), .iad 1 (.t 66) (.t 67), none⟩, [66, 67]),
  (⟨(some 69), .ld none (.t 68), none⟩, [68]),
  (⟨(some 70), .mv (.t 0), none⟩, [0]),
  (⟨(some 71), .mv (.t 11), none⟩, [11]),
  (⟨(some 72), .iad 5 (.t 70) (.t 71), none⟩, [70, 71]),
  (⟨(some 73), .ld (some 5) (.t 72), none⟩, [72]),
  (⟨(some 74), .call 42 [(.t 73)], none⟩, [73]),
  (⟨(some 75), .mv (.t 1), none⟩, [1]),
  (⟨(some 76), .mv (.t 12), none⟩, [12]),
  (⟨(some 77), .iad 5 (.t 75) (.t 76), none⟩, [75, 76]),
  (⟨(some 78), .ld (some 5) (.t 77), none⟩, [77]),
  (⟨(some 79), .call 41 [(.t 78)], none⟩, [78]),
  (⟨(some 80), .call 35 [(.t 65), (.t 69), (.t 74), (.t 79)], none⟩, [65, 69, 74, 79]),
  (⟨(some 9), .mv (.t 80), none⟩, [80])]
abbrev c30_46 : AC := .cond (.t 101) c30_44 c30_45
abbrev c30_47 : AC := .seq c30_42 c30_46
abbrev c30_48 : AC := .cond (.t 91) c30_41 c30_47
abbrev c30_49 : AC := .seq c30_40 c30_48
abbrev c30_50 : AC := .cond (.t 81) c30_39 c30_49
abbrev c30_51 : AC := .seq c30_38 c30_50
abbrev c30_52 : AC := .block 6 c30_51
abbrev c30_53 : AC := .seq c30_37 c30_52
abbrev c30_54 : AC := .block 5 c30_53
abbrev c30_55 : AC := .reg [⟨(some 51), .mv (.t 10), none⟩,
  ⟨(some 52), .bin .add (.t 51) (.k (.I 1)), none⟩,
  ⟨(some 10), .mv (.t 52), none⟩] false
abbrev c30_56 : AC := .seq c30_54 c30_55
abbrev c30_57 : AC := .seq c30_36 c30_56
abbrev c30_58 : AC := .loop c30_57
abbrev c30_59 : AC := .block 4 c30_58
abbrev c30_60 : AC := .seq c30_33 c30_59
abbrev c30_61 : AC := .reg [⟨(some 113), .mv (.t 9), none⟩,
  ⟨(some 114), .len (.t 113), none⟩,
  ⟨(some 115), .bin .gtr (.t 114) (.k (.I 64)), none⟩] false
abbrev c30_62 : AC := .reg [⟨(some 4), .mv (.k (.c .nil)), none⟩,
  ⟨(some 5), .mv (.k (.I 6)), none⟩] false
abbrev c30_63 : AC := .seq c30_62 .ret
abbrev c30_64 : AC := .cond (.t 115) c30_63 .skip
abbrev c30_65 : AC := .seq c30_61 c30_64
abbrev c30_66 : AC := .reg [⟨(some 116), .mv (.t 9), none⟩,
  ⟨(some 4), .mv (.t 116), none⟩,
  ⟨(some 5), .mv (.k (.I 0)), none⟩] false
abbrev c30_67 : AC := .seq c30_66 .ret
abbrev c30_68 : AC := .seq c30_65 c30_67
abbrev c30_69 : AC := .seq c30_60 c30_68
abbrev c30_70 : AC := .seq c30_32 c30_69
abbrev c30_71 : AC := .seq c30_31 c30_70
abbrev c30_72 : AC := .seq c30_19 c30_71
abbrev c30_73 : AC := .seq c30_7 c30_72
abbrev c30_74 : AC := .seq c30_6 c30_73
abbrev c30_75 : AC := .seq c30_1 c30_74
abbrev c30 : AC := c30_75
theorem code30 : fnCode Try.prog 30 = some (c30, [4, 5], 117) := by kernel_rfl
/- coinage/opinion.tableOf -/
abbrev c31_1 : AC := .reg [⟨(some 2), .mv (.k (.c .mn)), none⟩] false
abbrev c31_2 : AC := .reg [⟨(some 6), .mkmap (.one .i64), none⟩,
  ⟨(some 3), .mv (.t 6), none⟩] false
abbrev c31_3 : AC := .reg [⟨(some 7), .mv (.t 0), none⟩,
  ⟨(some 8), .len (.t 7), none⟩,
  ⟨(some 9), .mv (.k (.I 0)), none⟩] false
abbrev c31_4 : AC := .reg [⟨(some 10), .bin .lss (.t 9) (.t 8), none⟩] false
abbrev c31_5 : AC := .cond (.t 10) .skip (.exit 0)
abbrev c31_6 : AC := .reg [⟨(some 11), .iad 2 (.t 7) (.t 9), none⟩,
  ⟨(some 12), .ld (some 2) (.t 11), none⟩,
  ⟨(some 5), .alloc 43 [(.I 0), (.I 0)], none⟩,
  ⟨none, .st (some 2) (.t 5) (.t 12), none⟩] false
abbrev c31_7 : AC := .reg [⟨(some 13), .mv (.t 3), none⟩,
  ⟨(some 14), .fad 0 (.t 5), none⟩,
  ⟨(some 15), .ld none (.t 14), none⟩,
  ⟨(some 16), .fad 1 (.t 5), none⟩,
  ⟨(some 17), .ld none (.t 16), none⟩,
  ⟨(some 18), .build [(.I 0), (.B false)] [(0, 1, (.t 17)), (1, 1, (.k (.B true)))], none⟩,
  ⟨none, .mset (.one .i64) (.t 13) (.t 15) (.t 18), none⟩] false
abbrev c31_8 : AC := .seq c31_6 c31_7
abbrev c31_9 : AC := .block 1 c31_8
abbrev c31_10 : AC := .reg [⟨(some 19), .bin .add (.t 9) (.k (.I 1)), none⟩,
  ⟨(some 9), .mv (.t 19), none⟩] false
abbrev c31_11 : AC := .seq c31_9 c31_10
abbrev c31_12 : AC := .seq c31_5 c31_11
abbrev c31_13 : AC := .seq c31_4 c31_12
abbrev c31_14 : AC := .loop c31_13
abbrev c31_15 : AC := .block 0 c31_14
abbrev c31_16 : AC := .seq c31_3 c31_15
abbrev c31_17 : AC := .reg [⟨(some 20), .mv (.t 3), none⟩,
  ⟨(some 2), .mv (.t 20), none⟩] false
abbrev c31_18 : AC := .seq c31_17 .ret
abbrev c31_19 : AC := .seq c31_16 c31_18
abbrev c31_20 : AC := .seq c31_2 c31_19
abbrev c31_21 : AC := .seq c31_1 c31_20
abbrev c31 : AC := c31_21
theorem code31 : fnCode Try.prog 31 = some (c31, [2], 21) := by kernel_rfl
/- coinage/opinion.keys -/
abbrev c32_1 : AC := .reg [⟨(some 2), .mv (.k (.c .nil)), none⟩] false
abbrev c32_2 : AC := .reg [⟨(some 7), .mkmap (.one .i64), none⟩,
  ⟨(some 3), .mv (.t 7), none⟩] false
abbrev c32_3 : AC := .reg [⟨(some 8), .mv (.t 0), none⟩,
  ⟨(some 9), .len (.t 8), none⟩,
  ⟨(some 10), .mv (.k (.I 0)), none⟩] false
abbrev c32_4 : AC := .reg [⟨(some 11), .bin .lss (.t 10) (.t 9), none⟩] false
abbrev c32_5 : AC := .cond (.t 11) .skip (.exit 0)
abbrev c32_6 : AC := .reg [⟨(some 12), .iad 1 (.t 8) (.t 10), none⟩,
  ⟨(some 13), .ld none (.t 12), none⟩,
  ⟨(some 5), .mv (.t 13), none⟩] false
abbrev c32_7 : AC := .reg [⟨(some 14), .mv (.t 5), none⟩,
  ⟨(some 15), .mrange (.t 14), none⟩] false
abbrev c32_8 : AC := .reg [⟨(some 16), .mnext (.t 15), none⟩,
  ⟨(some 17), .ext (.t 16) 0, none⟩] false
abbrev c32_9 : AC := .cond (.t 17) .skip (.exit 2)
abbrev c32_10 : AC := .reg [⟨(some 18), .mentry (.t 15), none⟩,
  ⟨(some 19), .ext (.t 18) 0, none⟩,
  ⟨(some 6), .mv (.t 19), none⟩] false
abbrev c32_11 : AC := .reg [⟨(some 20), .mv (.t 3), none⟩,
  ⟨(some 21), .mv (.t 6), none⟩,
  ⟨none, .mset (.one .i64) (.t 20) (.t 21) (.k (.B true)), none⟩] false
abbrev c32_12 : AC := .seq c32_10 c32_11
abbrev c32_13 : AC := .block 3 c32_12
abbrev c32_14 : AC := .seq c32_9 c32_13
abbrev c32_15 : AC := .seq c32_8 c32_14
abbrev c32_16 : AC := .loop c32_15
abbrev c32_17 : AC := .block 2 c32_16
abbrev c32_18 : AC := .seq c32_7 c32_17
abbrev c32_19 : AC := .seq c32_6 c32_18
abbrev c32_20 : AC := .block 1 c32_19
abbrev c32_21 : AC := .reg [⟨(some 22), .bin .add (.t 10) (.k (.I 1)), none⟩,
  ⟨(some 10), .mv (.t 22), none⟩] false
abbrev c32_22 : AC := .seq c32_20 c32_21
abbrev c32_23 : AC := .seq c32_5 c32_22
abbrev c32_24 : AC := .seq c32_4 c32_23
abbrev c32_25 : AC := .loop c32_24
abbrev c32_26 : AC := .block 0 c32_25
abbrev c32_27 : AC := .seq c32_3 c32_26
abbrev c32_28 : AC := .reg [⟨(some 23), .mv (.t 3), none⟩,
  ⟨(some 24), .call 49 [(.t 23)], none⟩,
  ⟨(some 25), .call 47 [(.t 24)], none⟩,
  ⟨(some 2), .mv (.t 25), none⟩] false
abbrev c32_29 : AC := .seq c32_28 .ret
abbrev c32_30 : AC := .seq c32_27 c32_29
abbrev c32_31 : AC := .seq c32_2 c32_30
abbrev c32_32 : AC := .seq c32_1 c32_31
abbrev c32 : AC := c32_32
theorem code32 : fnCode Try.prog 32 = some (c32, [2], 26) := by kernel_rfl
/- coinage/opinion.change -/
abbrev c33_1 : AC := .reg [⟨(some 4), .box 49 (some 2) (.t 1), none⟩,
  ⟨(some 5), .box 49 (some 2) (.t 2), none⟩,
  ⟨(some 6), .alloc 51 [(.I 0), (.I 0), (.I 0), (.B false), (.B false)], none⟩] false
abbrev c33_2 : AC := .reg [⟨(some 7), .mv (.t 0), none⟩,
  ⟨(some 8), .fad 0 (.t 4), none⟩,
  ⟨(some 9), .ld none (.t 8), none⟩,
  ⟨(some 10), .fad 0 (.t 5), none⟩,
  ⟨(some 11), .ld none (.t 10), none⟩,
  ⟨(some 12), .fad 1 (.t 4), none⟩,
  ⟨(some 13), .ld none (.t 12), none⟩,
  ⟨(some 14), .fad 1 (.t 5), none⟩,
  ⟨(some 15), .ld none (.t 14), none⟩,
  ⟨(some 16), .build [(.I 0), (.I 0), (.I 0), (.B false), (.B false)] [(0, 1, (.t 7)), (1, 1, (.t 9)), (2, 1, (.t 11)), (3, 1, (.t 13)), (4, 1, (.t 15))], none⟩,
  ⟨none, .st (some 5) (.t 6) (.t 16), none⟩] false
abbrev c33_3 : AC := .seq c33_2 .ret
abbrev c33_4 : AC := .seq c33_1 c33_3
abbrev c33 : AC := c33_4
theorem code33 : fnCode Try.prog 33 = some (c33, [7000006], 17) := by kernel_rfl
/- coinage/coinageref12.keys -/
abbrev c34_1 : AC := .reg [⟨(some 2), .mv (.k (.c .nil)), none⟩] false
abbrev c34_2 : AC := .reg [⟨(some 3), .mv (.k (.c .nil)), none⟩] false
abbrev c34_3 : AC := .reg [⟨(some 4), .mv (.k (.I 0)), none⟩] false
abbrev c34_4 : AC := .reg [⟨(some 6), .mv (.t 4), none⟩,
  ⟨(some 7), .mv (.t 0), none⟩,
  ⟨(some 8), .len (.t 7), none⟩,
  ⟨(some 9), .bin .lss (.t 6) (.t 8), none⟩] false
abbrev c34_5 : AC := .cond (.t 9) .skip (.exit 0)
abbrev c34_6 : AC := .seq c34_4 c34_5
abbrev c34_7 : AC := .reg [⟨(some 5), .mv (.k (.I 0)), none⟩] false
abbrev c34_8 : AC := .reg [⟨(some 12), .mv (.t 5), none⟩,
  ⟨(some 13), .mv (.t 0), none⟩,
  ⟨(some 14), .mv (.t 4), none⟩,
  ⟨(some 15), .iad 1 (.t 13) (.t 14), none⟩,
  ⟨(some 16), .ld none (.t 15), none⟩,
  ⟨(some 17), .len (.t 16), none⟩,
  ⟨(some 18), .bin .lss (.t 12) (.t 17), none⟩] false
abbrev c34_9 : AC := .cond (.t 18) .skip (.exit 2)
abbrev c34_10 : AC := .seq c34_8 c34_9
abbrev c34_11 : AC := .reg [⟨(some 21), .mv (.t 3), none⟩,
  ⟨(some 22), .mv (.t 0), none⟩,
  ⟨(some 23), .mv (.t 4), none⟩,
  ⟨(some 24), .iad 1 (.t 22) (.t 23), none⟩,
  ⟨(some 25), .ld none (.t 24), none⟩,
  ⟨(some 26), .mv (.t 5), none⟩,
  ⟨(some 27), .iad 2 (.t 25) (.t 26), none⟩,
  ⟨(some 28), .fad 0 (.t 27), none⟩,
  ⟨(some 29), .ld none (.t 28), none⟩,
  ⟨(some 30), .call 45 [(.t 21), (.t 29)], none⟩,
  ⟨(some 3), .mv (.t 30), none⟩] false
abbrev c34_12 : AC := .block 3 c34_11
abbrev c34_13 : AC := .reg [⟨(some 19), .mv (.t 5), none⟩,
  ⟨(some 20), .bin .add (.t 19) (.k (.I 1)), none⟩,
  ⟨(some 5), .mv (.t 20), none⟩] false
abbrev c34_14 : AC := .seq c34_12 c34_13
abbrev c34_15 : AC := .seq c34_10 c34_14
abbrev c34_16 : AC := .loop c34_15
abbrev c34_17 : AC := .block 2 c34_16
abbrev c34_18 : AC := .seq c34_7 c34_17
abbrev c34_19 : AC := .block 1 c34_18
abbrev c34_20 : AC := .reg [⟨(some 10), .mv (.t 4), none⟩,
  ⟨(some 11), .bin .add (.t 10) (.k (.I 1)), none⟩,
  ⟨(some 4), .mv (.t 11), none⟩] false
abbrev c34_21 : AC := .seq c34_19 c34_20
abbrev c34_22 : AC := .seq c34_6 c34_21
abbrev c34_23 : AC := .loop c34_22
abbrev c34_24 : AC := .block 0 c34_23
abbrev c34_25 : AC := .seq c34_3 c34_24
abbrev c34_26 : AC := .reg [⟨(some 31), .mv (.t 3), none⟩,
  ⟨(some 2), .mv (.t 31), none⟩] false
abbrev c34_27 : AC := .seq c34_26 .ret
abbrev c34_28 : AC := .seq c34_25 c34_27
abbrev c34_29 : AC := .seq c34_2 c34_28
abbrev c34_30 : AC := .seq c34_1 c34_29
abbrev c34 : AC := c34_30
theorem code34 : fnCode Try.prog 34 = some (c34, [2], 32) := by kernel_rfl
/- coinage/coinageref12.change -/
abbrev c35_1 : AC := .reg [⟨(some 6), .box 57 (some 2) (.t 2), none⟩,
  ⟨(some 7), .box 57 (some 2) (.t 3), none⟩,
  ⟨(some 8), .mv (.k (.c .nil)), none⟩] false
abbrev c35_2 : AC := .reg [⟨(some 9), .ld (some 2) (.t 6), none⟩,
  ⟨(some 10), .ld (some 2) (.t 7), none⟩,
  ⟨(some 11), .eqs false [false, true] (.t 9) (.t 10), none⟩] false
abbrev c35_3 : AC := .reg [⟨(some 12), .mv (.t 0), none⟩,
  ⟨(some 8), .mv (.t 12), none⟩] false
abbrev c35_4 : AC := .seq c35_3 .ret
abbrev c35_5 : AC := .cond (.t 11) c35_4 .skip
abbrev c35_6 : AC := .seq c35_2 c35_5
abbrev c35_7 : AC := .reg [⟨(some 13), .mv (.t 0), none⟩,
  ⟨(some 14), .mv (.t 1), none⟩,
  ⟨(some 15), .fad 0 (.t 6), none⟩,
  ⟨(some 16), .ld none (.t 15), none⟩,
  ⟨(some 17), .fad 0 (.t 7), none⟩,
  ⟨(some 18), .ld none (.t 17), none⟩,
  ⟨(some 19), .fad 1 (.t 6), none⟩,
  ⟨(some 20), .ld none (.t 19), none⟩,
  ⟨(some 21), .fad 1 (.t 7), none⟩,
  ⟨(some 22), .ld none (.t 21), none⟩,
  ⟨(some 23), .build [(.I 0), (.I 0), (.I 0), (.B false), (.B false)] [(0, 1, (.t 14)), (1, 1, (.t 16)), (2, 1, (.t 18)), (3, 1, (.t 20)), (4, 1, (.t 22))], none⟩,
  ⟨(some 24), .bslice 51 5 [(.t 23)], none⟩,
  ⟨(some 25), .app 51 5 32 (.t 13) (.t 24), none⟩,
  ⟨(some 8), .mv (.t 25), none⟩] false
abbrev c35_8 : AC := .seq c35_7 .ret
abbrev c35_9 : AC := .seq c35_6 c35_8
abbrev c35_10 : AC := .seq c35_1 c35_9
abbrev c35 : AC := c35_10
theorem code35 : fnCode Try.prog 35 = some (c35, [8], 26) := by kernel_rfl
/- coinage/coinageref12.at -/
abbrev c36_1 : AC := .reg [⟨(some 4), .alloc 57 [(.I 0), (.B false)], none⟩] false
abbrev c36_2 : AC := .reg [⟨(some 5), .mv (.k (.I 0)), none⟩] false
abbrev c36_3 : AC := .reg [⟨(some 6), .mv (.t 5), none⟩,
  ⟨(some 7), .mv (.t 0), none⟩,
  ⟨(some 8), .len (.t 7), none⟩,
  ⟨(some 9), .bin .lss (.t 6) (.t 8), none⟩] false
abbrev c36_4 : AC := .cond (.t 9) .skip (.exit 0)
abbrev c36_5 : AC := .seq c36_3 c36_4
abbrev c36_6 : AC := .reg [⟨(some 12), .mv (.t 0), none⟩,
  ⟨(some 13), .mv (.t 5), none⟩,
  ⟨(some 14), .iad 2 (.t 12) (.t 13), none⟩,
  ⟨(some 15), .fad 0 (.t 14), none⟩,
  ⟨(some 16), .ld none (.t 15), none⟩,
  ⟨(some 17), .mv (.t 1), none⟩,
  ⟨(some 18), .bin .eql (.t 16) (.t 17), none⟩] false
abbrev c36_7 : AC := .reg [⟨(some 19), .mv (.t 0), none⟩,
  ⟨(some 20), .mv (.t 5), none⟩,
  ⟨(some 21), .iad 2 (.t 19) (.t 20), none⟩,
  ⟨(some 22), .fad 1 (.t 21), none⟩,
  ⟨(some 23), .ld none (.t 22), none⟩,
  ⟨(some 24), .build [(.I 0), (.B false)] [(0, 1, (.t 23)), (1, 1, (.k (.B true)))], none⟩,
  ⟨none, .st (some 2) (.t 4) (.t 24), none⟩] false
abbrev c36_8 : AC := .seq c36_7 .ret
abbrev c36_9 : AC := .cond (.t 18) c36_8 .skip
abbrev c36_10 : AC := .seq c36_6 c36_9
abbrev c36_11 : AC := .block 1 c36_10
abbrev c36_12 : AC := .reg [⟨(some 10), .mv (.t 5), none⟩,
  ⟨(some 11), .bin .add (.t 10) (.k (.I 1)), none⟩,
  ⟨(some 5), .mv (.t 11), none⟩] false
abbrev c36_13 : AC := .seq c36_11 c36_12
abbrev c36_14 : AC := .seq c36_5 c36_13
abbrev c36_15 : AC := .loop c36_14
abbrev c36_16 : AC := .block 0 c36_15
abbrev c36_17 : AC := .seq c36_2 c36_16
abbrev c36_18 : AC := .reg [⟨(some 25), .build [(.I 0), (.B false)] [], none⟩,
  ⟨none, .st (some 2) (.t 4) (.t 25), none⟩] false
abbrev c36_19 : AC := .seq c36_18 .ret
abbrev c36_20 : AC := .seq c36_17 c36_19
abbrev c36_21 : AC := .seq c36_1 c36_20
abbrev c36 : AC := c36_21
theorem code36 : fnCode Try.prog 36 = some (c36, [4000004], 26) := by kernel_rfl
/- (coinage/opinion.table).list -/
abbrev c37_1 : AC := .reg [⟨(some 2), .mv (.k (.c .nil)), none⟩] false
abbrev c37_2 : AC := .reg [⟨(some 3), .mv (.k (.c .nil)), none⟩] false
abbrev c37_3 : AC := .reg [⟨(some 6), .mv (.t 0), none⟩,
  ⟨(some 7), .call 50 [(.t 6)], none⟩,
  ⟨(some 8), .call 47 [(.t 7)], none⟩,
  ⟨(some 9), .len (.t 8), none⟩,
  ⟨(some 10), .mv (.k (.I 0)), none⟩] false
abbrev c37_4 : AC := .reg [⟨(some 11), .bin .lss (.t 10) (.t 9), none⟩] false
abbrev c37_5 : AC := .cond (.t 11) .skip (.exit 0)
abbrev c37_6 : AC := .reg [⟨(some 12), .iad 1 (.t 8) (.t 10), none⟩,
  ⟨(some 13), .ld none (.t 12), none⟩,
  ⟨(some 5), .mv (.t 13), none⟩] false
abbrev c37_7 : AC := .reg [⟨(some 14), .mv (.t 0), none⟩,
  ⟨(some 15), .mv (.t 5), none⟩,
  ⟨(some 16), .look (.one .i64) (.inr [(.sc (.int .i64 0)), (.sc (.bool false))]) false (.t 14) (.t 15), none⟩,
  ⟨(some 17), .fld 1 none (.t 16), none⟩] false
abbrev c37_8 : AC := .reg [⟨(some 18), .mv (.t 3), none⟩,
  ⟨(some 19), .mv (.t 5), none⟩,
  ⟨(some 20), .mv (.t 0), none⟩,
  ⟨(some 21), .mv (.t 5), none⟩,
  ⟨(some 22), .look (.one .i64) (.inr [(.sc (.int .i64 0)), (.sc (.bool false))]) false (.t 20) (.t 21), none⟩,
  ⟨(some 23), .fld 0 none (.t 22), none⟩,
  ⟨(some 24), .build [(.I 0), (.I 0)] [(0, 1, (.t 19)), (1, 1, (.t 23))], none⟩,
  ⟨(some 25), .bslice 43 2 [(.t 24)], none⟩,
  ⟨(some 26), .app 43 2 16 (.t 18) (.t 25), none⟩,
  ⟨(some 3), .mv (.t 26), none⟩] false
abbrev c37_9 : AC := .cond (.t 17) c37_8 .skip
abbrev c37_10 : AC := .seq c37_7 c37_9
abbrev c37_11 : AC := .seq c37_6 c37_10
abbrev c37_12 : AC := .block 1 c37_11
abbrev c37_13 : AC := .reg [⟨(some 27), .bin .add (.t 10) (.k (.I 1)), none⟩,
  ⟨(some 10), .mv (.t 27), none⟩] false
abbrev c37_14 : AC := .seq c37_12 c37_13
abbrev c37_15 : AC := .seq c37_5 c37_14
abbrev c37_16 : AC := .seq c37_4 c37_15
abbrev c37_17 : AC := .loop c37_16
abbrev c37_18 : AC := .block 0 c37_17
abbrev c37_19 : AC := .seq c37_3 c37_18
abbrev c37_20 : AC := .reg [⟨(some 28), .mv (.t 3), none⟩,
  ⟨(some 2), .mv (.t 28), none⟩] false
abbrev c37_21 : AC := .seq c37_20 .ret
abbrev c37_22 : AC := .seq c37_19 c37_21
abbrev c37_23 : AC := .seq c37_2 c37_22
abbrev c37_24 : AC := .seq c37_1 c37_23
abbrev c37 : AC := c37_24
theorem code37 : fnCode Try.prog 37 = some (c37, [2], 29) := by kernel_rfl
/- coinage/coinageref12.put -/
abbrev c38_1 : AC := .reg [⟨(some 5), .box 57 (some 2) (.t 2), none⟩,
  ⟨(some 6), .mv (.k (.c .nil)), none⟩] false
abbrev c38_2 : AC := .reg [⟨(some 7), .fad 1 (.t 5), none⟩,
  ⟨(some 8), .ld none (.t 7), none⟩,
  ⟨(some 9), .not (.t 8), none⟩] false
abbrev c38_3 : AC := .reg [⟨(some 10), .mv (.t 0), none⟩,
  ⟨(some 6), .mv (.t 10), none⟩] false
abbrev c38_4 : AC := .seq c38_3 .ret
abbrev c38_5 : AC := .cond (.t 9) c38_4 .skip
abbrev c38_6 : AC := .seq c38_2 c38_5
abbrev c38_7 : AC := .reg [⟨(some 11), .mv (.t 0), none⟩,
  ⟨(some 12), .mv (.t 1), none⟩,
  ⟨(some 13), .fad 0 (.t 5), none⟩,
  ⟨(some 14), .ld none (.t 13), none⟩,
  ⟨(some 15), .build [(.I 0), (.I 0)] [(0, 1, (.t 12)), (1, 1, (.t 14))], none⟩,
  ⟨(some 16), .bslice 43 2 [(.t 15)], none⟩,
  ⟨(some 17), .app 43 2 16 (.t 11) (.t 16), none⟩,
  ⟨(some 6), .mv (.t 17), none⟩] false
abbrev c38_8 : AC := .seq c38_7 .ret
abbrev c38_9 : AC := .seq c38_6 c38_8
abbrev c38_10 : AC := .seq c38_1 c38_9
abbrev c38 : AC := c38_10
theorem code38 : fnCode Try.prog 38 = some (c38, [6], 18) := by kernel_rfl
/- coinage/opinion.after -/
abbrev c39_1 : AC := .reg [⟨(some 1), .box 51 (some 5) (.t 0), none⟩,
  ⟨(some 2), .alloc 49 [(.I 0), (.B false)], none⟩] false
abbrev c39_2 : AC := .reg [⟨(some 3), .fad 2 (.t 1), none⟩,
  ⟨(some 4), .ld none (.t 3), none⟩,
  ⟨(some 5), .fad 4 (.t 1), none⟩,
  ⟨(some 6), .ld none (.t 5), none⟩,
  ⟨(some 7), .build [(.I 0), (.B false)] [(0, 1, (.t 4)), (1, 1, (.t 6))], none⟩,
  ⟨none, .st (some 2) (.t 2) (.t 7), none⟩] false
abbrev c39_3 : AC := .seq c39_2 .ret
abbrev c39_4 : AC := .seq c39_1 c39_3
abbrev c39 : AC := c39_4
theorem code39 : fnCode Try.prog 39 = some (c39, [4000002], 8) := by kernel_rfl
/- coinage/opinion.before -/
abbrev c40_1 : AC := .reg [⟨(some 1), .box 51 (some 5) (.t 0), none⟩,
  ⟨(some 2), .alloc 49 [(.I 0), (.B false)], none⟩] false
abbrev c40_2 : AC := .reg [⟨(some 3), .fad 1 (.t 1), none⟩,
  ⟨(some 4), .ld none (.t 3), none⟩,
  ⟨(some 5), .fad 3 (.t 1), none⟩,
  ⟨(some 6), .ld none (.t 5), none⟩,
  ⟨(some 7), .build [(.I 0), (.B false)] [(0, 1, (.t 4)), (1, 1, (.t 6))], none⟩,
  ⟨none, .st (some 2) (.t 2) (.t 7), none⟩] false
abbrev c40_3 : AC := .seq c40_2 .ret
abbrev c40_4 : AC := .seq c40_1 c40_3
abbrev c40 : AC := c40_4
theorem code40 : fnCode Try.prog 40 = some (c40, [4000002], 8) := by kernel_rfl
/- coinage/coinageref12.fresh -/
abbrev c41_1 : AC := .reg [⟨(some 1), .box 51 (some 5) (.t 0), none⟩,
  ⟨(some 2), .alloc 57 [(.I 0), (.B false)], none⟩] false
abbrev c41_2 : AC := .reg [⟨(some 3), .fad 2 (.t 1), none⟩,
  ⟨(some 4), .ld none (.t 3), none⟩,
  ⟨(some 5), .fad 4 (.t 1), none⟩,
  ⟨(some 6), .ld none (.t 5), none⟩,
  ⟨(some 7), .build [(.I 0), (.B false)] [(0, 1, (.t 4)), (1, 1, (.t 6))], none⟩,
  ⟨none, .st (some 2) (.t 2) (.t 7), none⟩] false
abbrev c41_3 : AC := .seq c41_2 .ret
abbrev c41_4 : AC := .seq c41_1 c41_3
abbrev c41 : AC := c41_4
theorem code41 : fnCode Try.prog 41 = some (c41, [4000002], 8) := by kernel_rfl
/- coinage/coinageref12.old -/
abbrev c42_1 : AC := .reg [⟨(some 1), .box 51 (some 5) (.t 0), none⟩,
  ⟨(some 2), .alloc 57 [(.I 0), (.B false)], none⟩] false
abbrev c42_2 : AC := .reg [⟨(some 3), .fad 1 (.t 1), none⟩,
  ⟨(some 4), .ld none (.t 3), none⟩,
  ⟨(some 5), .fad 3 (.t 1), none⟩,
  ⟨(some 6), .ld none (.t 5), none⟩,
  ⟨(some 7), .build [(.I 0), (.B false)] [(0, 1, (.t 4)), (1, 1, (.t 6))], none⟩,
  ⟨none, .st (some 2) (.t 2) (.t 7), none⟩] false
abbrev c42_3 : AC := .seq c42_2 .ret
abbrev c42_4 : AC := .seq c42_1 c42_3
abbrev c42 : AC := c42_4
theorem code42 : fnCode Try.prog 42 = some (c42, [4000002], 8) := by kernel_rfl
/- coinage/coinagebase.Ordered -/
abbrev c43_1 : AC := .reg [⟨(some 4), .mv (.k (.B false)), none⟩] false
abbrev c43_2 : AC := .reg [⟨(some 5), .mv (.k (.I 1)), none⟩] false
abbrev c43_3 : AC := .reg [⟨(some 6), .mv (.t 5), none⟩,
  ⟨(some 7), .mv (.t 0), none⟩,
  ⟨(some 8), .len (.t 7), none⟩,
  ⟨(some 9), .bin .lss (.t 6) (.t 8), none⟩] false
abbrev c43_4 : AC := .cond (.t 9) .skip (.exit 0)
abbrev c43_5 : AC := .seq c43_3 c43_4
abbrev c43_6 : AC := .regD [(⟨(some 12), .mv (.t 0), none⟩, [0]),
  (⟨(some 13), .mv (.t 5), none⟩, [5]),
  (⟨(some 14), .iad 2 (.t 12) (.t 13), none⟩, [12, 13]),
  (⟨(some 15), .fad 0 (.t 14), none⟩, [14]),
  (⟨(some 16), .ld none (.t 15), none⟩, [15]),
  (⟨(some 17), .mv (.t 0), none⟩, [0]),
  (⟨(some 18), .mv (.t 5), none⟩, [5]),
  (⟨(some 19), .bin .sub (.t 18) (.k (.I 1)), none⟩, [18]),
  (⟨(some 20), .iad 2 (.t 17) (.t 19), none⟩, [17, 19]),
  (⟨(some 21), .fad 0 (.t 20), none⟩, [20]),
  (⟨(some 22), .ld none (.t 21), none⟩, [21]),
  (⟨(some 23), .bin .leq (.t 16) (.t 22), none⟩, [16, 22])]
abbrev c43_7 : AC := .reg [⟨(some 4), .mv (.k (.B false)), none⟩] false
abbrev c43_8 : AC := .seq c43_7 .ret
abbrev c43_9 : AC := .cond (.t 23) c43_8 .skip
abbrev c43_10 : AC := .seq c43_6 c43_9
abbrev c43_11 : AC := .block 1 c43_10
abbrev c43_12 : AC := .reg [⟨(some 10), .mv (.t 5), none⟩,
  ⟨(some 11), .bin .add (.t 10) (.k (.I 1)), none⟩,
  ⟨(some 5), .mv (.t 11), none⟩] false
abbrev c43_13 : AC := .seq c43_11 c43_12
abbrev c43_14 : AC := .seq c43_5 c43_13
abbrev c43_15 : AC := .loop c43_14
abbrev c43_16 : AC := .block 0 c43_15
abbrev c43_17 : AC := .seq c43_2 c43_16
abbrev c43_18 : AC := .reg [⟨(some 24), .mv (.t 0), none⟩,
  ⟨(some 25), .len (.t 24), none⟩,
  ⟨(some 26), .mv (.t 1), none⟩,
  ⟨(some 27), .bin .leq (.t 25) (.t 26), none⟩,
  ⟨(some 4), .mv (.t 27), none⟩] false
abbrev c43_19 : AC := .seq c43_18 .ret
abbrev c43_20 : AC := .seq c43_17 c43_19
abbrev c43_21 : AC := .seq c43_1 c43_20
abbrev c43 : AC := c43_21
theorem code43 : fnCode Try.prog 43 = some (c43, [4], 28) := by kernel_rfl
/- coinage/coinageref12.single -/
abbrev c44_1 : AC := .reg [⟨(some 1), .box 51 (some 5) (.t 0), none⟩,
  ⟨(some 2), .mv (.k (.B false)), none⟩] false
abbrev c44_2 : AC := .reg [⟨(some 3), .fad 3 (.t 1), none⟩,
  ⟨(some 4), .ld none (.t 3), none⟩,
  ⟨(some 5), .not (.t 4), none⟩,
  ⟨(some 6), .mv (.t 5), none⟩,
  ⟨(some 7), .fad 1 (.t 1), (some (6, true))⟩,
  ⟨(some 8), .ld none (.t 7), (some (6, true))⟩,
  ⟨(some 9), .bin .neq (.t 8) (.k (.I 0)), (some (6, true))⟩,
  ⟨(some 10), .pick (.t 6) (.t 9) (.k (.B false)), none⟩,
  ⟨(some 11), .mv (.t 10), none⟩,
  ⟨(some 12), .fad 4 (.t 1), (some (11, false))⟩,
  ⟨(some 13), .ld none (.t 12), (some (11, false))⟩,
  ⟨(some 14), .not (.t 13), (some (11, false))⟩,
  ⟨(some 15), .mv (.t 14), (some (11, false))⟩,
  ⟨(some 16), .fad 2 (.t 1), (some (15, true))⟩,
  ⟨(some 17), .ld none (.t 16), (some (15, true))⟩,
  ⟨(some 18), .bin .neq (.t 17) (.k (.I 0)), (some (15, true))⟩,
  ⟨(some 19), .pick (.t 15) (.t 18) (.k (.B false)), (some (11, false))⟩,
  ⟨(some 20), .pick (.t 11) (.k (.B true)) (.t 19), none⟩] false
abbrev c44_3 : AC := .reg [⟨(some 2), .mv (.k (.B false)), none⟩] false
abbrev c44_4 : AC := .seq c44_3 .ret
abbrev c44_5 : AC := .cond (.t 20) c44_4 .skip
abbrev c44_6 : AC := .seq c44_2 c44_5
abbrev c44_7 : AC := .reg [⟨(some 21), .fad 3 (.t 1), none⟩,
  ⟨(some 22), .ld none (.t 21), none⟩,
  ⟨(some 23), .mv (.t 22), none⟩,
  ⟨(some 24), .fad 4 (.t 1), (some (23, false))⟩,
  ⟨(some 25), .ld none (.t 24), (some (23, false))⟩,
  ⟨(some 26), .pick (.t 23) (.k (.B true)) (.t 25), none⟩,
  ⟨(some 27), .mv (.t 26), none⟩,
  ⟨(some 28), .fad 3 (.t 1), (some (27, true))⟩,
  ⟨(some 29), .ld none (.t 28), (some (27, true))⟩,
  ⟨(some 30), .mv (.t 29), (some (27, true))⟩,
  ⟨(some 31), .fad 4 (.t 1), (some (30, true))⟩,
  ⟨(some 32), .ld none (.t 31), (some (30, true))⟩,
  ⟨(some 33), .pick (.t 30) (.t 32) (.k (.B false)), (some (27, true))⟩,
  ⟨(some 34), .mv (.t 33), (some (27, true))⟩,
  ⟨(some 35), .fad 1 (.t 1), (some (34, true))⟩,
  ⟨(some 36), .ld none (.t 35), (some (34, true))⟩,
  ⟨(some 37), .fad 2 (.t 1), (some (34, true))⟩,
  ⟨(some 38), .ld none (.t 37), (some (34, true))⟩,
  ⟨(some 39), .bin .eql (.t 36) (.t 38), (some (34, true))⟩,
  ⟨(some 40), .pick (.t 34) (.t 39) (.k (.B false)), (some (27, true))⟩,
  ⟨(some 41), .not (.t 40), (some (27, true))⟩,
  ⟨(some 42), .pick (.t 27) (.t 41) (.k (.B false)), none⟩,
  ⟨(some 2), .mv (.t 42), none⟩] false
abbrev c44_8 : AC := .seq c44_7 .ret
abbrev c44_9 : AC := .seq c44_6 c44_8
abbrev c44_10 : AC := .seq c44_1 c44_9
abbrev c44 : AC := c44_10
theorem code44 : fnCode Try.prog 44 = some (c44, [2], 43) := by kernel_rfl
/- coinage/coinageref12.with -/
abbrev c45_1 : AC := .reg [⟨(some 4), .mv (.k (.c .nil)), none⟩] false
abbrev c45_2 : AC := .reg [⟨(some 5), .mv (.k (.I 0)), none⟩] false
abbrev c45_3 : AC := .reg [⟨(some 6), .mv (.t 5), none⟩,
  ⟨(some 7), .mv (.t 0), none⟩,
  ⟨(some 8), .len (.t 7), none⟩,
  ⟨(some 9), .bin .lss (.t 6) (.t 8), none⟩,
  ⟨(some 10), .mv (.t 9), none⟩,
  ⟨(some 11), .mv (.t 0), (some (10, true))⟩,
  ⟨(some 12), .mv (.t 5), (some (10, true))⟩,
  ⟨(some 13), .iad 1 (.t 11) (.t 12), (some (10, true))⟩,
  ⟨(some 14), .ld none (.t 13), (some (10, true))⟩,
  ⟨(some 15), .mv (.t 1), (some (10, true))⟩,
  ⟨(some 16), .bin .lss (.t 14) (.t 15), (some (10, true))⟩,
  ⟨(some 17), .pick (.t 10) (.t 16) (.k (.B false)), none⟩] false
abbrev c45_4 : AC := .cond (.t 17) .skip (.exit 0)
abbrev c45_5 : AC := .seq c45_3 c45_4
abbrev c45_6 : AC := .reg [⟨(some 18), .mv (.t 5), none⟩,
  ⟨(some 19), .bin .add (.t 18) (.k (.I 1)), none⟩,
  ⟨(some 5), .mv (.t 19), none⟩] false
abbrev c45_7 : AC := .block 1 c45_6
abbrev c45_8 : AC := .seq c45_5 c45_7
abbrev c45_9 : AC := .loop c45_8
abbrev c45_10 : AC := .block 0 c45_9
abbrev c45_11 : AC := .reg [⟨(some 20), .mv (.t 5), none⟩,
  ⟨(some 21), .mv (.t 0), none⟩,
  ⟨(some 22), .len (.t 21), none⟩,
  ⟨(some 23), .bin .lss (.t 20) (.t 22), none⟩,
  ⟨(some 24), .mv (.t 23), none⟩,
  ⟨(some 25), .mv (.t 0), (some (24, true))⟩,
  ⟨(some 26), .mv (.t 5), (some (24, true))⟩,
  ⟨(some 27), .iad 1 (.t 25) (.t 26), (some (24, true))⟩,
  ⟨(some 28), .ld none (.t 27), (some (24, true))⟩,
  ⟨(some 29), .mv (.t 1), (some (24, true))⟩,
  ⟨(some 30), .bin .eql (.t 28) (.t 29), (some (24, true))⟩,
  ⟨(some 31), .pick (.t 24) (.t 30) (.k (.B false)), none⟩] false
abbrev c45_12 : AC := .reg [⟨(some 32), .mv (.t 0), none⟩,
  ⟨(some 4), .mv (.t 32), none⟩] false
abbrev c45_13 : AC := .seq c45_12 .ret
abbrev c45_14 : AC := .cond (.t 31) c45_13 .skip
abbrev c45_15 : AC := .seq c45_11 c45_14
abbrev c45_16 : AC := .regX (.first ⟨(some 34), .mv (.t 0), none⟩
  (.first ⟨(some 35), .mv (.t 5), none⟩
  (.first ⟨(some 38), .mv (.t 1), none⟩
  (.first ⟨(some 41), .mv (.t 0), none⟩
  (.first ⟨(some 42), .mv (.t 5), none⟩
  (.fork ⟨(some 33), .bslice 3 1 [], none⟩
  (.fork ⟨(some 36), .slc 1 (.t 34) none (some (.t 35)), none⟩
  (.fork ⟨(some 37), .app 3 1 8 (.t 33) (.t 36), none⟩
  (.fork ⟨(some 39), .bslice 3 1 [(.t 38)], none⟩
  (.fork ⟨(some 40), .app 3 1 8 (.t 37) (.t 39), none⟩
  (.fork ⟨(some 43), .slc 1 (.t 41) (some (.t 42)) none, none⟩
  (.fork ⟨(some 44), .app 3 1 8 (.t 40) (.t 43), none⟩
  (.first ⟨(some 4), .mv (.t 44), none⟩
  .done)
  .nope)
  .nope)
  (.fork ⟨(some 43), .slc 1 (.t 41) (some (.t 42)) none, none⟩
  (.fork ⟨(some 40), .app 3 1 8 (.t 37) (.t 39), none⟩
  (.fork ⟨(some 44), .app 3 1 8 (.t 40) (.t 43), none⟩
  (.first ⟨(some 4), .mv (.t 44), none⟩
  .done)
  .nope)
  .nope)
  .nope))
  (.fork ⟨(some 43), .slc 1 (.t 41) (some (.t 42)) none, none⟩
  (.fork ⟨(some 39), .bslice 3 1 [(.t 38)], none⟩
  (.fork ⟨(some 40), .app 3 1 8 (.t 37) (.t 39), none⟩
  (.fork ⟨(some 44), .app 3 1 8 (.t 40) (.t 43), none⟩
  (.first ⟨(some 4), .mv (.t 44), none⟩
  .done)
  .nope)
  .nope)
  .nope)
  .nope))
  (.fork ⟨(some 39), .bslice 3 1 [(.t 38)], none⟩
  (.fork ⟨(some 37), .app 3 1 8 (.t 33) (.t 36), none⟩
  (.fork ⟨(some 40), .app 3 1 8 (.t 37) (.t 39), none⟩
  (.fork ⟨(some 43), .slc 1 (.t 41) (some (.t 42)) none, none⟩
  (.fork ⟨(some 44), .app 3 1 8 (.t 40) (.t 43), none⟩
  (.first ⟨(some 4), .mv (.t 44), none⟩
  .done)
  .nope)
  .nope)
  (.fork ⟨(some 43), .slc 1 (.t 41) (some (.t 42)) none, none⟩
  (.fork ⟨(some 40), .app 3 1 8 (.t 37) (.t 39), none⟩
  (.fork ⟨(some 44), .app 3 1 8 (.t 40) (.t 43), none⟩
  (.first ⟨(some 4), .mv (.t 44), none⟩
  .done)
  .nope)
  .nope)
  .nope))
  (.fork ⟨(some 43), .slc 1 (.t 41) (some (.t 42)) none, none⟩
  (.fork ⟨(some 37), .app 3 1 8 (.t 33) (.t 36), none⟩
  (.fork ⟨(some 40), .app 3 1 8 (.t 37) (.t 39), none⟩
  (.fork ⟨(some 44), .app 3 1 8 (.t 40) (.t 43), none⟩
  (.first ⟨(some 4), .mv (.t 44), none⟩
  .done)
  .nope)
  .nope)
  .nope)
  .nope))
  (.fork ⟨(some 43), .slc 1 (.t 41) (some (.t 42)) none, none⟩
  (.fork ⟨(some 37), .app 3 1 8 (.t 33) (.t 36), none⟩
  (.fork ⟨(some 39), .bslice 3 1 [(.t 38)], none⟩
  (.fork ⟨(some 40), .app 3 1 8 (.t 37) (.t 39), none⟩
  (.fork ⟨(some 44), .app 3 1 8 (.t 40) (.t 43), none⟩
  (.first ⟨(some 4), .mv (.t 44), none⟩
  .done)
  .nope)
  .nope)
  .nope)
  (.fork ⟨(some 39), .bslice 3 1 [(.t 38)], none⟩
  (.fork ⟨(some 37), .app 3 1 8 (.t 33) (.t 36), none⟩
  (.fork ⟨(some 40), .app 3 1 8 (.t 37) (.t 39), none⟩
  (.fork ⟨(some 44), .app 3 1 8 (.t 40) (.t 43), none⟩
  (.first ⟨(some 4), .mv (.t 44), none⟩
  .done)
  .nope)
  .nope)
  .nope)
  .nope))
  .nope)))
  (.fork ⟨(some 39), .bslice 3 1 [(.t 38)], none⟩
  (.fork ⟨(some 36), .slc 1 (.t 34) none (some (.t 35)), none⟩
  (.fork ⟨(some 37), .app 3 1 8 (.t 33) (.t 36), none⟩
  (.fork ⟨(some 40), .app 3 1 8 (.t 37) (.t 39), none⟩
  (.fork ⟨(some 43), .slc 1 (.t 41) (some (.t 42)) none, none⟩
  (.fork ⟨(some 44), .app 3 1 8 (.t 40) (.t 43), none⟩
  (.first ⟨(some 4), .mv (.t 44), none⟩
  .done)
  .nope)
  .nope)
  (.fork ⟨(some 43), .slc 1 (.t 41) (some (.t 42)) none, none⟩
  (.fork ⟨(some 40), .app 3 1 8 (.t 37) (.t 39), none⟩
  (.fork ⟨(some 44), .app 3 1 8 (.t 40) (.t 43), none⟩
  (.first ⟨(some 4), .mv (.t 44), none⟩
  .done)
  .nope)
  .nope)
  .nope))
  (.fork ⟨(some 43), .slc 1 (.t 41) (some (.t 42)) none, none⟩
  (.fork ⟨(some 37), .app 3 1 8 (.t 33) (.t 36), none⟩
  (.fork ⟨(some 40), .app 3 1 8 (.t 37) (.t 39), none⟩
  (.fork ⟨(some 44), .app 3 1 8 (.t 40) (.t 43), none⟩
  (.first ⟨(some 4), .mv (.t 44), none⟩
  .done)
  .nope)
  .nope)
  .nope)
  .nope))
  (.fork ⟨(some 43), .slc 1 (.t 41) (some (.t 42)) none, none⟩
  (.fork ⟨(some 36), .slc 1 (.t 34) none (some (.t 35)), none⟩
  (.fork ⟨(some 37), .app 3 1 8 (.t 33) (.t 36), none⟩
  (.fork ⟨(some 40), .app 3 1 8 (.t 37) (.t 39), none⟩
  (.fork ⟨(some 44), .app 3 1 8 (.t 40) (.t 43), none⟩
  (.first ⟨(some 4), .mv (.t 44), none⟩
  .done)
  .nope)
  .nope)
  .nope)
  .nope)
  .nope))
  (.fork ⟨(some 43), .slc 1 (.t 41) (some (.t 42)) none, none⟩
  (.fork ⟨(some 36), .slc 1 (.t 34) none (some (.t 35)), none⟩
  (.fork ⟨(some 37), .app 3 1 8 (.t 33) (.t 36), none⟩
  (.fork ⟨(some 39), .bslice 3 1 [(.t 38)], none⟩
  (.fork ⟨(some 40), .app 3 1 8 (.t 37) (.t 39), none⟩
  (.fork ⟨(some 44), .app 3 1 8 (.t 40) (.t 43), none⟩
  (.first ⟨(some 4), .mv (.t 44), none⟩
  .done)
  .nope)
  .nope)
  .nope)
  (.fork ⟨(some 39), .bslice 3 1 [(.t 38)], none⟩
  (.fork ⟨(some 37), .app 3 1 8 (.t 33) (.t 36), none⟩
  (.fork ⟨(some 40), .app 3 1 8 (.t 37) (.t 39), none⟩
  (.fork ⟨(some 44), .app 3 1 8 (.t 40) (.t 43), none⟩
  (.first ⟨(some 4), .mv (.t 44), none⟩
  .done)
  .nope)
  .nope)
  .nope)
  .nope))
  (.fork ⟨(some 39), .bslice 3 1 [(.t 38)], none⟩
  (.fork ⟨(some 36), .slc 1 (.t 34) none (some (.t 35)), none⟩
  (.fork ⟨(some 37), .app 3 1 8 (.t 33) (.t 36), none⟩
  (.fork ⟨(some 40), .app 3 1 8 (.t 37) (.t 39), none⟩
  (.fork ⟨(some 44), .app 3 1 8 (.t 40) (.t 43), none⟩
  (.first ⟨(some 4), .mv (.t 44), none⟩
  .done)
  .nope)
  .nope)
  .nope)
  .nope)
  .nope))
  .nope)))
  (.fork ⟨(some 36), .slc 1 (.t 34) none (some (.t 35)), none⟩
  (.fork ⟨(some 33), .bslice 3 1 [], none⟩
  (.fork ⟨(some 37), .app 3 1 8 (.t 33) (.t 36), none⟩
  (.fork ⟨(some 39), .bslice 3 1 [(.t 38)], none⟩
  (.fork ⟨(some 40), .app 3 1 8 (.t 37) (.t 39), none⟩
  (.fork ⟨(some 43), .slc 1 (.t 41) (some (.t 42)) none, none⟩
  (.fork ⟨(some 44), .app 3 1 8 (.t 40) (.t 43), none⟩
  (.first ⟨(some 4), .mv (.t 44), none⟩
  .done)
  .nope)
  .nope)
  (.fork ⟨(some 43), .slc 1 (.t 41) (some (.t 42)) none, none⟩
  (.fork ⟨(some 40), .app 3 1 8 (.t 37) (.t 39), none⟩
  (.fork ⟨(some 44), .app 3 1 8 (.t 40) (.t 43), none⟩
  (.first ⟨(some 4), .mv (.t 44), none⟩
  .done)
  .nope)
  .nope)
  .nope))
  (.fork ⟨(some 43), .slc 1 (.t 41) (some (.t 42)) none, none⟩
  (.fork ⟨(some 39), .bslice 3 1 [(.t 38)], none⟩
  (.fork ⟨(some 40), .app 3 1 8 (.t 37) (.t 39), none⟩
  (.fork ⟨(some 44), .app 3 1 8 (.t 40) (.t 43), none⟩
  (.first ⟨(some 4), .mv (.t 44), none⟩
  .done)
  .nope)
  .nope)
  .nope)
  .nope))
  (.fork ⟨(some 39), .bslice 3 1 [(.t 38)], none⟩
  (.fork ⟨(some 37), .app 3 1 8 (.t 33) (.t 36), none⟩
  (.fork ⟨(some 40), .app 3 1 8 (.t 37) (.t 39), none⟩
  (.fork ⟨(some 43), .slc 1 (.t 41) (some (.t 42)) none, none⟩
  (.fork ⟨(some 44), .app 3 1 8 (.t 40) (.t 43), none⟩
  (.first ⟨(some 4), .mv (.t 44), none⟩
  .done)
  .nope)
  .nope)
  (.fork ⟨(some 43), .slc 1 (.t 41) (some (.t 42)) none, none⟩
  (.fork ⟨(some 40), .app 3 1 8 (.t 37) (.t 39), none⟩
  (.fork ⟨(some 44), .app 3 1 8 (.t 40) (.t 43), none⟩
  (.first ⟨(some 4), .mv (.t 44), none⟩
  .done)
  .nope)
  .nope)
  .nope))
  (.fork ⟨(some 43), .slc 1 (.t 41) (some (.t 42)) none, none⟩
  (.fork ⟨(some 37), .app 3 1 8 (.t 33) (.t 36), none⟩
  (.fork ⟨(some 40), .app 3 1 8 (.t 37) (.t 39), none⟩
  (.fork ⟨(some 44), .app 3 1 8 (.t 40) (.t 43), none⟩
  (.first ⟨(some 4), .mv (.t 44), none⟩
  .done)
  .nope)
  .nope)
  .nope)
  .nope))
  (.fork ⟨(some 43), .slc 1 (.t 41) (some (.t 42)) none, none⟩
  (.fork ⟨(some 37), .app 3 1 8 (.t 33) (.t 36), none⟩
  (.fork ⟨(some 39), .bslice 3 1 [(.t 38)], none⟩
  (.fork ⟨(some 40), .app 3 1 8 (.t 37) (.t 39), none⟩
  (.fork ⟨(some 44), .app 3 1 8 (.t 40) (.t 43), none⟩
  (.first ⟨(some 4), .mv (.t 44), none⟩
  .done)
  .nope)
  .nope)
  .nope)
  (.fork ⟨(some 39), .bslice 3 1 [(.t 38)], none⟩
  (.fork ⟨(some 37), .app 3 1 8 (.t 33) (.t 36), none⟩
  (.fork ⟨(some 40), .app 3 1 8 (.t 37) (.t 39), none⟩
  (.fork ⟨(some 44), .app 3 1 8 (.t 40) (.t 43), none⟩
  (.first ⟨(some 4), .mv (.t 44), none⟩
  .done)
  .nope)
  .nope)
  .nope)
  .nope))
  .nope)))
  (.fork ⟨(some 39), .bslice 3 1 [(.t 38)], none⟩
  (.fork ⟨(some 33), .bslice 3 1 [], none⟩
  (.fork ⟨(some 37), .app 3 1 8 (.t 33) (.t 36), none⟩
  (.fork ⟨(some 40), .app 3 1 8 (.t 37) (.t 39), none⟩
  (.fork ⟨(some 43), .slc 1 (.t 41) (some (.t 42)) none, none⟩
  (.fork ⟨(some 44), .app 3 1 8 (.t 40) (.t 43), none⟩
  (.first ⟨(some 4), .mv (.t 44), none⟩
  .done)
  .nope)
  .nope)
  (.fork ⟨(some 43), .slc 1 (.t 41) (some (.t 42)) none, none⟩
  (.fork ⟨(some 40), .app 3 1 8 (.t 37) (.t 39), none⟩
  (.fork ⟨(some 44), .app 3 1 8 (.t 40) (.t 43), none⟩
  (.first ⟨(some 4), .mv (.t 44), none⟩
  .done)
  .nope)
  .nope)
  .nope))
  (.fork ⟨(some 43), .slc 1 (.t 41) (some (.t 42)) none, none⟩
  (.fork ⟨(some 37), .app 3 1 8 (.t 33) (.t 36), none⟩
  (.fork ⟨(some 40), .app 3 1 8 (.t 37) (.t 39), none⟩
  (.fork ⟨(some 44), .app 3 1 8 (.t 40) (.t 43), none⟩
  (.first ⟨(some 4), .mv (.t 44), none⟩
  .done)
  .nope)
  .nope)
  .nope)
  .nope))
  (.fork ⟨(some 43), .slc 1 (.t 41) (some (.t 42)) none, none⟩
  (.fork ⟨(some 33), .bslice 3 1 [], none⟩
  (.fork ⟨(some 37), .app 3 1 8 (.t 33) (.t 36), none⟩
  (.fork ⟨(some 40), .app 3 1 8 (.t 37) (.t 39), none⟩
  (.fork ⟨(some 44), .app 3 1 8 (.t 40) (.t 43), none⟩
  (.first ⟨(some 4), .mv (.t 44), none⟩
  .done)
  .nope)
  .nope)
  .nope)
  .nope)
  .nope))
  (.fork ⟨(some 43), .slc 1 (.t 41) (some (.t 42)) none, none⟩
  (.fork ⟨(some 33), .bslice 3 1 [], none⟩
  (.fork ⟨(some 37), .app 3 1 8 (.t 33) (.t 36), none⟩
  (.fork ⟨(some 39), .bslice 3 1 [(.t 38)], none⟩
  (.fork ⟨(some 40), .app 3 1 8 (.t 37) (.t 39), none⟩
  (.fork ⟨(some 44), .app 3 1 8 (.t 40) (.t 43), none⟩
  (.first ⟨(some 4), .mv (.t 44), none⟩
  .done)
  .nope)
  .nope)
  .nope)
  (.fork ⟨(some 39), .bslice 3 1 [(.t 38)], none⟩
  (.fork ⟨(some 37), .app 3 1 8 (.t 33) (.t 36), none⟩
  (.fork ⟨(some 40), .app 3 1 8 (.t 37) (.t 39), none⟩
  (.fork ⟨(some 44), .app 3 1 8 (.t 40) (.t 43), none⟩
  (.first ⟨(some 4), .mv (.t 44), none⟩
  .done)
  .nope)
  .nope)
  .nope)
  .nope))
  (.fork ⟨(some 39), .bslice 3 1 [(.t 38)], none⟩
  (.fork ⟨(some 33), .bslice 3 1 [], none⟩
  (.fork ⟨(some 37), .app 3 1 8 (.t 33) (.t 36), none⟩
  (.fork ⟨(some 40), .app 3 1 8 (.t 37) (.t 39), none⟩
  (.fork ⟨(some 44), .app 3 1 8 (.t 40) (.t 43), none⟩
  (.first ⟨(some 4), .mv (.t 44), none⟩
  .done)
  .nope)
  .nope)
  .nope)
  .nope)
  .nope))
  .nope)))
  (.fork ⟨(some 39), .bslice 3 1 [(.t 38)], none⟩
  (.fork ⟨(some 33), .bslice 3 1 [], none⟩
  (.fork ⟨(some 36), .slc 1 (.t 34) none (some (.t 35)), none⟩
  (.fork ⟨(some 37), .app 3 1 8 (.t 33) (.t 36), none⟩
  (.fork ⟨(some 40), .app 3 1 8 (.t 37) (.t 39), none⟩
  (.fork ⟨(some 43), .slc 1 (.t 41) (some (.t 42)) none, none⟩
  (.fork ⟨(some 44), .app 3 1 8 (.t 40) (.t 43), none⟩
  (.first ⟨(some 4), .mv (.t 44), none⟩
  .done)
  .nope)
  .nope)
  (.fork ⟨(some 43), .slc 1 (.t 41) (some (.t 42)) none, none⟩
  (.fork ⟨(some 40), .app 3 1 8 (.t 37) (.t 39), none⟩
  (.fork ⟨(some 44), .app 3 1 8 (.t 40) (.t 43), none⟩
  (.first ⟨(some 4), .mv (.t 44), none⟩
  .done)
  .nope)
  .nope)
  .nope))
  (.fork ⟨(some 43), .slc 1 (.t 41) (some (.t 42)) none, none⟩
  (.fork ⟨(some 37), .app 3 1 8 (.t 33) (.t 36), none⟩
  (.fork ⟨(some 40), .app 3 1 8 (.t 37) (.t 39), none⟩
  (.fork ⟨(some 44), .app 3 1 8 (.t 40) (.t 43), none⟩
  (.first ⟨(some 4), .mv (.t 44), none⟩
  .done)
  .nope)
  .nope)
  .nope)
  .nope))
  (.fork ⟨(some 43), .slc 1 (.t 41) (some (.t 42)) none, none⟩
  (.fork ⟨(some 36), .slc 1 (.t 34) none (some (.t 35)), none⟩
  (.fork ⟨(some 37), .app 3 1 8 (.t 33) (.t 36), none⟩
  (.fork ⟨(some 40), .app 3 1 8 (.t 37) (.t 39), none⟩
  (.fork ⟨(some 44), .app 3 1 8 (.t 40) (.t 43), none⟩
  (.first ⟨(some 4), .mv (.t 44), none⟩
  .done)
  .nope)
  .nope)
  .nope)
  .nope)
  .nope))
  (.fork ⟨(some 36), .slc 1 (.t 34) none (some (.t 35)), none⟩
  (.fork ⟨(some 33), .bslice 3 1 [], none⟩
  (.fork ⟨(some 37), .app 3 1 8 (.t 33) (.t 36), none⟩
  (.fork ⟨(some 40), .app 3 1 8 (.t 37) (.t 39), none⟩
  (.fork ⟨(some 43), .slc 1 (.t 41) (some (.t 42)) none, none⟩
  (.fork ⟨(some 44), .app 3 1 8 (.t 40) (.t 43), none⟩
  (.first ⟨(some 4), .mv (.t 44), none⟩
  .done)
  .nope)
  .nope)
  (.fork ⟨(some 43), .slc 1 (.t 41) (some (.t 42)) none, none⟩
  (.fork ⟨(some 40), .app 3 1 8 (.t 37) (.t 39), none⟩
  (.fork ⟨(some 44), .app 3 1 8 (.t 40) (.t 43), none⟩
  (.first ⟨(some 4), .mv (.t 44), none⟩
  .done)
  .nope)
  .nope)
  .nope))
  (.fork ⟨(some 43), .slc 1 (.t 41) (some (.t 42)) none, none⟩
  (.fork ⟨(some 37), .app 3 1 8 (.t 33) (.t 36), none⟩
  (.fork ⟨(some 40), .app 3 1 8 (.t 37) (.t 39), none⟩
  (.fork ⟨(some 44), .app 3 1 8 (.t 40) (.t 43), none⟩
  (.first ⟨(some 4), .mv (.t 44), none⟩
  .done)
  .nope)
  .nope)
  .nope)
  .nope))
  (.fork ⟨(some 43), .slc 1 (.t 41) (some (.t 42)) none, none⟩
  (.fork ⟨(some 33), .bslice 3 1 [], none⟩
  (.fork ⟨(some 37), .app 3 1 8 (.t 33) (.t 36), none⟩
  (.fork ⟨(some 40), .app 3 1 8 (.t 37) (.t 39), none⟩
  (.fork ⟨(some 44), .app 3 1 8 (.t 40) (.t 43), none⟩
  (.first ⟨(some 4), .mv (.t 44), none⟩
  .done)
  .nope)
  .nope)
  .nope)
  .nope)
  .nope))
  (.fork ⟨(some 43), .slc 1 (.t 41) (some (.t 42)) none, none⟩
  (.fork ⟨(some 33), .bslice 3 1 [], none⟩
  (.fork ⟨(some 36), .slc 1 (.t 34) none (some (.t 35)), none⟩
  (.fork ⟨(some 37), .app 3 1 8 (.t 33) (.t 36), none⟩
  (.fork ⟨(some 40), .app 3 1 8 (.t 37) (.t 39), none⟩
  (.fork ⟨(some 44), .app 3 1 8 (.t 40) (.t 43), none⟩
  (.first ⟨(some 4), .mv (.t 44), none⟩
  .done)
  .nope)
  .nope)
  .nope)
  .nope)
  (.fork ⟨(some 36), .slc 1 (.t 34) none (some (.t 35)), none⟩
  (.fork ⟨(some 33), .bslice 3 1 [], none⟩
  (.fork ⟨(some 37), .app 3 1 8 (.t 33) (.t 36), none⟩
  (.fork ⟨(some 40), .app 3 1 8 (.t 37) (.t 39), none⟩
  (.fork ⟨(some 44), .app 3 1 8 (.t 40) (.t 43), none⟩
  (.first ⟨(some 4), .mv (.t 44), none⟩
  .done)
  .nope)
  .nope)
  .nope)
  .nope)
  .nope))
  .nope)))
  (.fork ⟨(some 43), .slc 1 (.t 41) (some (.t 42)) none, none⟩
  (.fork ⟨(some 33), .bslice 3 1 [], none⟩
  (.fork ⟨(some 36), .slc 1 (.t 34) none (some (.t 35)), none⟩
  (.fork ⟨(some 37), .app 3 1 8 (.t 33) (.t 36), none⟩
  (.fork ⟨(some 39), .bslice 3 1 [(.t 38)], none⟩
  (.fork ⟨(some 40), .app 3 1 8 (.t 37) (.t 39), none⟩
  (.fork ⟨(some 44), .app 3 1 8 (.t 40) (.t 43), none⟩
  (.first ⟨(some 4), .mv (.t 44), none⟩
  .done)
  .nope)
  .nope)
  .nope)
  (.fork ⟨(some 39), .bslice 3 1 [(.t 38)], none⟩
  (.fork ⟨(some 37), .app 3 1 8 (.t 33) (.t 36), none⟩
  (.fork ⟨(some 40), .app 3 1 8 (.t 37) (.t 39), none⟩
  (.fork ⟨(some 44), .app 3 1 8 (.t 40) (.t 43), none⟩
  (.first ⟨(some 4), .mv (.t 44), none⟩
  .done)
  .nope)
  .nope)
  .nope)
  .nope))
  (.fork ⟨(some 39), .bslice 3 1 [(.t 38)], none⟩
  (.fork ⟨(some 36), .slc 1 (.t 34) none (some (.t 35)), none⟩
  (.fork ⟨(some 37), .app 3 1 8 (.t 33) (.t 36), none⟩
  (.fork ⟨(some 40), .app 3 1 8 (.t 37) (.t 39), none⟩
  (.fork ⟨(some 44), .app 3 1 8 (.t 40) (.t 43), none⟩
  (.first ⟨(some 4), .mv (.t 44), none⟩
  .done)
  .nope)
  .nope)
  .nope)
  .nope)
  .nope))
  (.fork ⟨(some 36), .slc 1 (.t 34) none (some (.t 35)), none⟩
  (.fork ⟨(some 33), .bslice 3 1 [], none⟩
  (.fork ⟨(some 37), .app 3 1 8 (.t 33) (.t 36), none⟩
  (.fork ⟨(some 39), .bslice 3 1 [(.t 38)], none⟩
  (.fork ⟨(some 40), .app 3 1 8 (.t 37) (.t 39), none⟩
  (.fork ⟨(some 44), .app 3 1 8 (.t 40) (.t 43), none⟩
  (.first ⟨(some 4), .mv (.t 44), none⟩
  .done)
  .nope)
  .nope)
  .nope)
  (.fork ⟨(some 39), .bslice 3 1 [(.t 38)], none⟩
  (.fork ⟨(some 37), .app 3 1 8 (.t 33) (.t 36), none⟩
  (.fork ⟨(some 40), .app 3 1 8 (.t 37) (.t 39), none⟩
  (.fork ⟨(some 44), .app 3 1 8 (.t 40) (.t 43), none⟩
  (.first ⟨(some 4), .mv (.t 44), none⟩
  .done)
  .nope)
  .nope)
  .nope)
  .nope))
  (.fork ⟨(some 39), .bslice 3 1 [(.t 38)], none⟩
  (.fork ⟨(some 33), .bslice 3 1 [], none⟩
  (.fork ⟨(some 37), .app 3 1 8 (.t 33) (.t 36), none⟩
  (.fork ⟨(some 40), .app 3 1 8 (.t 37) (.t 39), none⟩
  (.fork ⟨(some 44), .app 3 1 8 (.t 40) (.t 43), none⟩
  (.first ⟨(some 4), .mv (.t 44), none⟩
  .done)
  .nope)
  .nope)
  .nope)
  .nope)
  .nope))
  (.fork ⟨(some 39), .bslice 3 1 [(.t 38)], none⟩
  (.fork ⟨(some 33), .bslice 3 1 [], none⟩
  (.fork ⟨(some 36), .slc 1 (.t 34) none (some (.t 35)), none⟩
  (.fork ⟨(some 37), .app 3 1 8 (.t 33) (.t 36), none⟩
  (.fork ⟨(some 40), .app 3 1 8 (.t 37) (.t 39), none⟩
  (.fork ⟨(some 44), .app 3 1 8 (.t 40) (.t 43), none⟩
  (.first ⟨(some 4), .mv (.t 44), none⟩
  .done)
  .nope)
  .nope)
  .nope)
  .nope)
  (.fork ⟨(some 36), .slc 1 (.t 34) none (some (.t 35)), none⟩
  (.fork ⟨(some 33), .bslice 3 1 [], none⟩
  (.fork ⟨(some 37), .app 3 1 8 (.t 33) (.t 36), none⟩
  (.fork ⟨(some 40), .app 3 1 8 (.t 37) (.t 39), none⟩
  (.fork ⟨(some 44), .app 3 1 8 (.t 40) (.t 43), none⟩
  (.first ⟨(some 4), .mv (.t 44), none⟩
  .done)
  .nope)
  .nope)
  .nope)
  .nope)
  .nope))
  .nope)))
  .nope)))))))))
abbrev c45_17 : AC := .seq c45_16 .ret
abbrev c45_18 : AC := .seq c45_15 c45_17
abbrev c45_19 : AC := .seq c45_10 c45_18
abbrev c45_20 : AC := .seq c45_2 c45_19
abbrev c45_21 : AC := .seq c45_1 c45_20
abbrev c45 : AC := c45_21
theorem code45 : fnCode Try.prog 45 = some (c45, [4], 45) := by kernel_rfl
/- coinage/coinageref12.find -/
abbrev c46_1 : AC := .reg [⟨(some 4), .mv (.k (.I 0)), none⟩] false
abbrev c46_2 : AC := .reg [⟨(some 5), .mv (.k (.I 0)), none⟩] false
abbrev c46_3 : AC := .reg [⟨(some 6), .mv (.t 5), none⟩,
  ⟨(some 7), .mv (.t 0), none⟩,
  ⟨(some 8), .len (.t 7), none⟩,
  ⟨(some 9), .bin .lss (.t 6) (.t 8), none⟩] false
abbrev c46_4 : AC := .cond (.t 9) .skip (.exit 0)
abbrev c46_5 : AC := .seq c46_3 c46_4
abbrev c46_6 : AC := .reg [⟨(some 12), .mv (.t 0), none⟩,
  ⟨(some 13), .mv (.t 5), none⟩,
  ⟨(some 14), .iad 5 (.t 12) (.t 13), none⟩,
  ⟨(some 15), .fad 0 (.t 14), none⟩,
  ⟨(some 16), .ld none (.t 15), none⟩,
  ⟨(some 17), .mv (.t 1), none⟩,
  ⟨(some 18), .bin .eql (.t 16) (.t 17), none⟩] false
abbrev c46_7 : AC := .reg [⟨(some 19), .mv (.t 5), none⟩,
  ⟨(some 4), .mv (.t 19), none⟩] false
abbrev c46_8 : AC := .seq c46_7 .ret
abbrev c46_9 : AC := .cond (.t 18) c46_8 .skip
abbrev c46_10 : AC := .seq c46_6 c46_9
abbrev c46_11 : AC := .block 1 c46_10
abbrev c46_12 : AC := .reg [⟨(some 10), .mv (.t 5), none⟩,
  ⟨(some 11), .bin .add (.t 10) (.k (.I 1)), none⟩,
  ⟨(some 5), .mv (.t 11), none⟩] false
abbrev c46_13 : AC := .seq c46_11 c46_12
abbrev c46_14 : AC := .seq c46_5 c46_13
abbrev c46_15 : AC := .loop c46_14
abbrev c46_16 : AC := .block 0 c46_15
abbrev c46_17 : AC := .seq c46_2 c46_16
abbrev c46_18 : AC := .reg [⟨(some 4), .mv (.k (.I (-1))), none⟩] false
abbrev c46_19 : AC := .seq c46_18 .ret
abbrev c46_20 : AC := .seq c46_17 c46_19
abbrev c46_21 : AC := .seq c46_1 c46_20
abbrev c46 : AC := c46_21
theorem code46 : fnCode Try.prog 46 = some (c46, [4], 20) := by kernel_rfl

end Go.Proofs.Ytklkehlccjofoaa

-- P p_12.txt
open Go Go.AL
namespace Go.Proofs.Ytklkehlccjofoaa
/- coinage/coinageref12.Merge -/
abbrev c18_1 : AC := .reg [⟨(some 6), .mv (.k (.c .nil)), none⟩,
  ⟨(some 7), .mv (.k (.c .nil)), none⟩,
  ⟨(some 8), .mv (.k (.I 0)), none⟩] false
abbrev c18_2 : AC := .reg [⟨(some 16), .mv (.t 0), none⟩,
  ⟨(some 17), .call 24 [(.t 16)], none⟩,
  ⟨(some 18), .not (.t 17), none⟩,
  ⟨(some 19), .mv (.t 18), none⟩,
  ⟨(some 20), .mv (.t 1), (some (19, false))⟩,
  ⟨(some 21), .call 24 [(.t 20)], (some (19, false))⟩,
  ⟨(some 22), .not (.t 21), (some (19, false))⟩,
  ⟨(some 23), .pick (.t 19) (.k (.B true)) (.t 22), none⟩,
  ⟨(some 24), .mv (.t 23), none⟩,
  ⟨(some 25), .mv (.t 2), (some (24, false))⟩,
  ⟨(some 26), .call 24 [(.t 25)], (some (24, false))⟩,
  ⟨(some 27), .not (.t 26), (some (24, false))⟩,
  ⟨(some 28), .pick (.t 24) (.k (.B true)) (.t 27), none⟩] false
abbrev c18_3 : AC := .reg [⟨(some 6), .mv (.k (.c .nil)), none⟩,
  ⟨(some 7), .mv (.k (.c .nil)), none⟩,
  ⟨(some 8), .mv (.k (.I 1)), none⟩] false
abbrev c18_4 : AC := .seq c18_3 .ret
abbrev c18_5 : AC := .cond (.t 28) c18_4 .skip
abbrev c18_6 : AC := .seq c18_2 c18_5
abbrev c18_7 : AC := .reg [⟨(some 9), .mv (.k (.c .nil)), none⟩] false
abbrev c18_8 : AC := .reg [⟨(some 10), .mv (.k (.c .nil)), none⟩] false
abbrev c18_9 : AC := .reg [⟨(some 29), .mv (.t 0), none⟩,
  ⟨(some 30), .mv (.t 1), none⟩,
  ⟨(some 31), .mv (.t 2), none⟩,
  ⟨(some 32), .bslice 22 1 [(.t 29), (.t 30), (.t 31)], none⟩,
  ⟨(some 33), .call 34 [(.t 32)], none⟩,
  ⟨(some 11), .mv (.t 33), none⟩] false
abbrev c18_10 : AC := .reg [⟨(some 12), .mv (.k (.I 0)), none⟩] false
abbrev c18_11 : AC := .reg [⟨(some 34), .mv (.t 12), none⟩,
  ⟨(some 35), .mv (.t 11), none⟩,
  ⟨(some 36), .len (.t 35), none⟩,
  ⟨(some 37), .bin .lss (.t 34) (.t 36), none⟩] false
abbrev c18_12 : AC := .cond (.t 37) .skip (.exit 0)
abbrev c18_13 : AC := .seq c18_11 c18_12
def c18_14L : List AP := [⟨(some 40), .mv (.t 0), none⟩,
  ⟨(some 41), .mv (.t 11), none⟩,
  ⟨(some 42), .mv (.t 12), none⟩,
  ⟨(some 43), .iad 1 (.t 41) (.t 42), none⟩,
  ⟨(some 44), .ld none (.t 43), none⟩,
  ⟨(some 45), .call 36 [(.t 40), (.t 44)], none⟩,
  ⟨(some 46), .mv (.t 1), none⟩,
  ⟨(some 47), .mv (.t 11), none⟩,
  ⟨(some 48), .mv (.t 12), none⟩,
  ⟨(some 49), .iad 1 (.t 47) (.t 48), none⟩,
  ⟨(some 50), .ld none (.t 49), none⟩,
  ⟨(some 51), .call 36 [(.t 46), (.t 50)], none⟩,
  ⟨(some 52), .mv (.t 2), none⟩,
  ⟨(some 53), .mv (.t 11), none⟩,
  ⟨(some 54), .mv (.t 12), none⟩,
  ⟨(some 55), .iad 1 (.t 53) (.t 54), none⟩,
  ⟨(some 56), .ld none (.t 55), none⟩,
  ⟨(some 57), .call 36 [(.t 52), (.t 56)], none⟩,
  ⟨(some 13), .alloc 57 [(.I 0), (.B false)], none⟩,
  ⟨(some 14), .alloc 57 [(.I 0), (.B false)], none⟩,
  ⟨(some 15), .alloc 57 [(.I 0), (.B false)], none⟩,
  ⟨none, .st (some 2) (.t 13) (.t 45), none⟩,
  ⟨none, .st (some 2) (.t 14) (.t 51), none⟩,
  ⟨none, .st (some 2) (.t 15) (.t 57), none⟩]
abbrev c18_14 : AC := .regG c18_14L [0, 0, 0, 6, 8, 17, 0, 0, 0, 384, 512, 1120, 0, 0, 0, 24576, 32768, 71680, 0, 0, 0, 1966143, 3936255, 8388607] [0, 0, 0, 6, 8, 17, 0, 0, 0, 384, 512, 1088, 0, 0, 0, 24576, 32768, 69632, 0, 0, 0, 262176, 526336, 1179648]
abbrev c18_15 : AC := .reg [⟨(some 73), .ld (some 2) (.t 14), none⟩,
  ⟨(some 74), .ld (some 2) (.t 15), none⟩,
  ⟨(some 75), .eqs false [false, true] (.t 73) (.t 74), none⟩,
  ⟨(some 76), .mv (.t 75), none⟩,
  ⟨(some 77), .ld (some 2) (.t 15), (some (76, false))⟩,
  ⟨(some 78), .ld (some 2) (.t 13), (some (76, false))⟩,
  ⟨(some 79), .eqs false [false, true] (.t 77) (.t 78), (some (76, false))⟩,
  ⟨(some 80), .pick (.t 76) (.k (.B true)) (.t 79), none⟩,
  ⟨(some 72), .mv (.t 80), none⟩] false
abbrev c18_16 : AC := .regD [(⟨(some 81), .mv (.t 9), none⟩, [9]),
  (⟨(some 82), .mv (.t 11), none⟩, [11]),
  (⟨(some 83), .mv (.t 12), none⟩, [12]),
  (⟨(some 84), .iad 1 (.t 82) (.t 83), none⟩, [82, 83]),
  (⟨(some 85), .ld none (.t 84), none⟩, [84]),
  (⟨(some 86), .ld (some 2) (.t 14), none⟩, [14]),
  (⟨(some 87), .call 38 [(.t 81), (.t 85), (.t 86)], none⟩, [81, 85, 86]),
  (⟨(some 9), .mv (.t 87), none⟩, [87])]
abbrev c18_17 : AC := .reg [⟨(some 89), .ld (some 2) (.t 14), none⟩,
  ⟨(some 90), .ld (some 2) (.t 13), none⟩,
  ⟨(some 91), .eqs false [false, true] (.t 89) (.t 90), none⟩,
  ⟨(some 88), .mv (.t 91), none⟩] false
abbrev c18_18 : AC := .regD [(⟨(some 92), .mv (.t 9), none⟩, [9]),
  (⟨(some 93), .mv (.t 11), none⟩, [11]),
  (⟨(some 94), .mv (.t 12), none⟩, [12]),
  (⟨(some 95), .iad 1 (.t 93) (.t 94), none⟩, [93, 94]),
  (⟨(some 96), .ld none (.t 95), none⟩, [95]),
  (⟨(some 97), .ld (some 2) (.t 15), none⟩, [15]),
  (⟨(some 98), .call 38 [(.t 92), (.t 96), (.t 97)], none⟩, [92, 96, 97]),
  (⟨(some 9), .mv (.t 98), none⟩, [98])]
abbrev c18_19 : AC := .regD [(⟨(some 58), .mv (.t 9), none⟩, [9]),
  (⟨(some 59), .mv (.t 11), none⟩, [11]),
  (⟨(some 60), .mv (.t 12), none⟩, [12]),
  (⟨(some 61), .iad 1 (.t 59) (.t 60), none⟩, [59, 60]),
  (⟨(some 62), .ld none (.t 61), none⟩, [61]),
  (⟨(some 63), .ld (some 2) (.t 13), none⟩, [13]),
  (⟨(some 64), .call 38 [(.t 58), (.t 62), (.t 63)], none⟩, [58, 62, 63]),
  (⟨(some 9), .mv (.t 64), none⟩, [64])]
abbrev c18_20 : AC := .reg [⟨(some 65), .mv (.t 10), none⟩,
  ⟨(some 66), .mv (.t 11), none⟩,
  ⟨(some 67), .mv (.t 12), none⟩,
  ⟨(some 68), .iad 1 (.t 66) (.t 67), none⟩,
  ⟨(some 69), .ld none (.t 68), none⟩,
  ⟨(some 70), .bslice 3 1 [(.t 69)], none⟩,
  ⟨(some 71), .app 3 1 8 (.t 65) (.t 70), none⟩,
  ⟨(some 10), .mv (.t 71), none⟩] false
abbrev c18_21 : AC := .seq c18_19 c18_20
abbrev c18_22 : AC := .cond (.t 88) c18_18 c18_21
abbrev c18_23 : AC := .seq c18_17 c18_22
abbrev c18_24 : AC := .cond (.t 72) c18_16 c18_23
abbrev c18_25 : AC := .seq c18_15 c18_24
abbrev c18_26 : AC := .block 2 c18_25
abbrev c18_27 : AC := .seq c18_14 c18_26
abbrev c18_28 : AC := .block 1 c18_27
abbrev c18_29 : AC := .reg [⟨(some 38), .mv (.t 12), none⟩,
  ⟨(some 39), .bin .add (.t 38) (.k (.I 1)), none⟩,
  ⟨(some 12), .mv (.t 39), none⟩] false
abbrev c18_30 : AC := .seq c18_28 c18_29
abbrev c18_31 : AC := .seq c18_13 c18_30
abbrev c18_32 : AC := .loop c18_31
abbrev c18_33 : AC := .block 0 c18_32
abbrev c18_34 : AC := .seq c18_10 c18_33
abbrev c18_35 : AC := .reg [⟨(some 99), .mv (.t 9), none⟩,
  ⟨(some 100), .len (.t 99), none⟩,
  ⟨(some 101), .bin .gtr (.t 100) (.k (.I 64)), none⟩,
  ⟨(some 102), .mv (.t 101), none⟩,
  ⟨(some 103), .mv (.t 10), (some (102, false))⟩,
  ⟨(some 104), .len (.t 103), (some (102, false))⟩,
  ⟨(some 105), .bin .gtr (.t 104) (.k (.I 64)), (some (102, false))⟩,
  ⟨(some 106), .pick (.t 102) (.k (.B true)) (.t 105), none⟩] false
abbrev c18_36 : AC := .reg [⟨(some 6), .mv (.k (.c .nil)), none⟩,
  ⟨(some 7), .mv (.k (.c .nil)), none⟩,
  ⟨(some 8), .mv (.k (.I 6)), none⟩] false
abbrev c18_37 : AC := .seq c18_36 .ret
abbrev c18_38 : AC := .cond (.t 106) c18_37 .skip
abbrev c18_39 : AC := .seq c18_35 c18_38
abbrev c18_40 : AC := .reg [⟨(some 107), .mv (.t 9), none⟩,
  ⟨(some 108), .mv (.t 10), none⟩,
  ⟨(some 6), .mv (.t 107), none⟩,
  ⟨(some 7), .mv (.t 108), none⟩,
  ⟨(some 8), .mv (.k (.I 0)), none⟩] false
abbrev c18_41 : AC := .seq c18_40 .ret
abbrev c18_42 : AC := .seq c18_39 c18_41
abbrev c18_43 : AC := .seq c18_34 c18_42
abbrev c18_44 : AC := .seq c18_9 c18_43
abbrev c18_45 : AC := .seq c18_8 c18_44
abbrev c18_46 : AC := .seq c18_7 c18_45
abbrev c18_47 : AC := .seq c18_6 c18_46
abbrev c18_48 : AC := .seq c18_1 c18_47
abbrev c18 : AC := c18_48
theorem code18 : fnCode Try.prog 18 = some (c18, [6, 7, 8], 109) := by kernel_rfl

end Go.Proofs.Ytklkehlccjofoaa

