/-
  Lemmas for the proof: no statement of its own.
-/
import Derived.Test.YtdbkhiobchkjjaaProg
import Derived.Test.YtdbkhiobchkjjaaAlD
import Derived.KernelRfl
set_option linter.unusedVariables false
set_option linter.unusedSimpArgs false
open Go Go.AL
namespace Go.Proofs.Ytdbkhiobchkjjaa
/- coinage/coinagelaw21.WearAdvances -/
abbrev c3_1 : AC := .reg [⟨(some 2), .box 23 (some 7) (.t 0), none⟩,
  ⟨(some 3), .box 23 (some 7) (.t 1), none⟩,
  ⟨(some 4), .mv (.k (.B false)), none⟩] false
abbrev c3_2 : AC := .reg [⟨(some 7), .call 10 [], none⟩,
  ⟨(some 8), .not (.t 7), none⟩] false
abbrev c3_3 : AC := .reg [⟨(some 4), .mv (.k (.B false)), none⟩] false
abbrev c3_4 : AC := .seq c3_3 .ret
abbrev c3_5 : AC := .cond (.t 8) c3_4 .skip
abbrev c3_6 : AC := .seq c3_2 c3_5
abbrev c3_7 : AC := .regD [(⟨(some 9), .ld (some 7) (.t 2), none⟩, [2]),
  (⟨(some 10), .ld (some 7) (.t 3), none⟩, [3]),
  (⟨(some 11), .call 11 [(.t 9), (.t 10)], none⟩, [9, 10]),
  (⟨(some 12), .ld (some 7) (.t 3), none⟩, [3]),
  (⟨(some 13), .ld (some 7) (.t 2), none⟩, [2]),
  (⟨(some 14), .call 11 [(.t 12), (.t 13)], none⟩, [12, 13]),
  (⟨(some 5), .mv (.t 11), none⟩, [11]),
  (⟨(some 6), .mv (.t 14), none⟩, [14])]
abbrev c3_8 : AC := .reg [⟨(some 15), .mv (.t 5), none⟩,
  ⟨(some 16), .ld (some 7) (.t 2), none⟩,
  ⟨(some 17), .ld (some 7) (.t 3), none⟩,
  ⟨(some 18), .call 12 [(.t 16), (.t 17)], none⟩,
  ⟨(some 19), .bin .neq (.t 15) (.t 18), none⟩] false
abbrev c3_9 : AC := .reg [⟨(some 4), .mv (.k (.B false)), none⟩] false
abbrev c3_10 : AC := .seq c3_9 .ret
abbrev c3_11 : AC := .cond (.t 19) c3_10 .skip
abbrev c3_12 : AC := .seq c3_8 c3_11
abbrev c3_13 : AC := .reg [⟨(some 20), .mv (.t 5), none⟩,
  ⟨(some 21), .bin .eql (.t 20) (.k (.I 1)), none⟩,
  ⟨(some 22), .mv (.t 21), none⟩,
  ⟨(some 23), .mv (.t 5), (some (22, false))⟩,
  ⟨(some 24), .bin .eql (.t 23) (.k (.I 2)), (some (22, false))⟩,
  ⟨(some 25), .pick (.t 22) (.k (.B true)) (.t 24), none⟩] false
abbrev c3_14 : AC := .reg [⟨(some 26), .mv (.t 6), none⟩,
  ⟨(some 27), .mv (.t 5), none⟩,
  ⟨(some 28), .bin .sub (.k (.I 3)) (.t 27), none⟩,
  ⟨(some 29), .bin .eql (.t 26) (.t 28), none⟩,
  ⟨(some 4), .mv (.t 29), none⟩] false
abbrev c3_15 : AC := .seq c3_14 .ret
abbrev c3_16 : AC := .cond (.t 25) c3_15 .skip
abbrev c3_17 : AC := .seq c3_13 c3_16
abbrev c3_18 : AC := .reg [⟨(some 30), .mv (.t 5), none⟩,
  ⟨(some 31), .mv (.t 6), none⟩,
  ⟨(some 32), .bin .eql (.t 30) (.t 31), none⟩,
  ⟨(some 4), .mv (.t 32), none⟩] false
abbrev c3_19 : AC := .seq c3_18 .ret
abbrev c3_20 : AC := .seq c3_17 c3_19
abbrev c3_21 : AC := .seq c3_12 c3_20
abbrev c3_22 : AC := .seq c3_7 c3_21
abbrev c3_23 : AC := .seq c3_6 c3_22
abbrev c3_24 : AC := .seq c3_1 c3_23
abbrev c3 : AC := c3_24
theorem code3 : fnCode Try.prog 3 = some (c3, [4], 33) := by kernel_rfl
/- coinage/coinagelaw21.WearOrders -/
abbrev c4_1 : AC := .reg [⟨(some 4), .mv (.k (.B false)), none⟩] false
abbrev c4_2 : AC := .reg [⟨(some 11), .call 10 [], none⟩,
  ⟨(some 12), .not (.t 11), none⟩,
  ⟨(some 13), .mv (.t 12), none⟩,
  ⟨(some 14), .mv (.t 0), (some (13, false))⟩,
  ⟨(some 15), .call 13 [(.t 14)], (some (13, false))⟩,
  ⟨(some 16), .not (.t 15), (some (13, false))⟩,
  ⟨(some 17), .pick (.t 13) (.k (.B true)) (.t 16), none⟩] false
abbrev c4_3 : AC := .reg [⟨(some 18), .call 10 [], none⟩,
  ⟨(some 4), .mv (.t 18), none⟩] false
abbrev c4_4 : AC := .seq c4_3 .ret
abbrev c4_5 : AC := .cond (.t 17) c4_4 .skip
abbrev c4_6 : AC := .seq c4_2 c4_5
abbrev c4_7 : AC := .reg [⟨(some 20), .mv (.t 0), none⟩,
  ⟨(some 21), .mv (.t 1), none⟩,
  ⟨(some 22), .conv .i64 (.t 21), none⟩,
  ⟨(some 23), .bin .rem (.t 22) (.k (.I 2)), none⟩,
  ⟨(some 24), .call 14 [(.t 20), (.t 23)], none⟩,
  ⟨(some 19), .mv (.t 24), none⟩,
  ⟨(some 25), .ext (.t 19) 0, none⟩,
  ⟨(some 26), .ext (.t 19) 1, none⟩,
  ⟨(some 5), .mv (.t 25), none⟩,
  ⟨(some 6), .mv (.t 26), none⟩] false
abbrev c4_8 : AC := .reg [⟨(some 27), .mv (.t 6), none⟩,
  ⟨(some 28), .bin .neq (.t 27) (.k (.I 0)), none⟩] false
abbrev c4_9 : AC := .reg [⟨(some 29), .mv (.t 5), none⟩,
  ⟨(some 30), .len (.t 29), none⟩,
  ⟨(some 31), .bin .eql (.t 30) (.k (.I 0)), none⟩,
  ⟨(some 32), .mv (.t 31), none⟩,
  ⟨(some 33), .mv (.t 0), (some (32, true))⟩,
  ⟨(some 34), .call 15 [(.t 33)], (some (32, true))⟩,
  ⟨(some 35), .bin .neq (.t 34) (.k (.I 0)), (some (32, true))⟩,
  ⟨(some 36), .pick (.t 32) (.t 35) (.k (.B false)), none⟩,
  ⟨(some 4), .mv (.t 36), none⟩] false
abbrev c4_10 : AC := .seq c4_9 .ret
abbrev c4_11 : AC := .cond (.t 28) c4_10 .skip
abbrev c4_12 : AC := .seq c4_8 c4_11
abbrev c4_13 : AC := .reg [⟨(some 7), .mv (.k (.I 0)), none⟩] false
abbrev c4_14 : AC := .reg [⟨(some 37), .mv (.t 7), none⟩,
  ⟨(some 38), .mv (.t 5), none⟩,
  ⟨(some 39), .len (.t 38), none⟩,
  ⟨(some 40), .bin .lss (.t 37) (.t 39), none⟩] false
abbrev c4_15 : AC := .cond (.t 40) .skip (.exit 0)
abbrev c4_16 : AC := .seq c4_14 c4_15
abbrev c4_17 : AC := .regD [(⟨(some 43), .mv (.t 5), none⟩, [5]),
  (⟨(some 44), .mv (.t 7), none⟩, [7]),
  (⟨(some 45), .iad 2 (.t 43) (.t 44), none⟩, [43, 44]),
  (⟨(some 46), .fad 0 (.t 45), none⟩, [45]),
  (⟨(some 47), .ld none (.t 46), none⟩, [46]),
  (⟨(some 48), .mv (.t 5), none⟩, [5]),
  (⟨(some 49), .mv (.t 7), none⟩, [7]),
  (⟨(some 50), .iad 2 (.t 48) (.t 49), none⟩, [48, 49]),
  (⟨(some 51), .fad 1 (.t 50), none⟩, [50]),
  (⟨(some 52), .ld none (.t 51), none⟩, [51]),
  (⟨(some 53), .bin .eql (.t 47) (.t 52), none⟩, [47, 52]),
  (⟨(some 54), .mv (.t 53), none⟩, [53]),
  (⟨(some 55), .mv (.t 5), (some (54, false))⟩, [5, 54]),
  (⟨(some 56), .mv (.t 7), (some (54, false))⟩, [7, 54]),
  (⟨(some 57), .iad 2 (.t 55) (.t 56), (some (54, false))⟩, [55, 56, 54]),
  (⟨(some 58), .fad 0 (.t 57), (some (54, false))⟩, [57, 54]),
  (⟨(some 59), .ld none (.t 58), (some (54, false))⟩, [58, 54]),
  (⟨(some 60), .bin .lss (.t 59) (.k (.I 0)), (some (54, false))⟩, [59, 54]),
  (⟨(some 61), .pick (.t 54) (.k (.B true)) (.t 60), none⟩, [54, 60]),
  (⟨(some 62), .mv (.t 61), none⟩, [61]),
  (⟨(some 63), .mv (.t 5), (some (62, false))⟩, [5, 62]),
  (⟨(some 64), .mv (.t 7), (some (62, false))⟩, [7, 62]),
  (⟨(some 65), .iad 2 (.t 63) (.t 64), (some (62, false))⟩, [63, 64, 62]),
  (⟨(some 66), .fad 1 (.t 65), (some (62, false))⟩, [65, 62]),
  (⟨(some 67), .ld none (.t 66), (some (62, false))⟩, [66, 62]),
  (⟨(some 68), .bin .lss (.t 67) (.k (.I 0)), (some (62, false))⟩, [67, 62]),
  (⟨(some 69), .pick (.t 62) (.k (.B true)) (.t 68), none⟩, [62, 68]),
  (⟨(some 70), .mv (.t 69), none⟩, [69]),
  (⟨(some 71), .mv (.t 5), (some (70, false))⟩, [5, 70]),
  (⟨(some 72), .mv (.t 7), (some (70, false))⟩, [7, 70]),
  (⟨(some 73), .iad 2 (.t 71) (.t 72), (some (70, false))⟩, [71, 72, 70]),
  (⟨(some 74), .fad 0 (.t 73), (some (70, false))⟩, [73, 70]),
  (⟨(some 75), .ld none (.t 74), (some (70, false))⟩, [74, 70]),
  (⟨(some 76), .mv (.t 0), (some (70, false))⟩, [0, 70]),
  (⟨(some 77), .len (.t 76), (some (70, false))⟩, [76, 70]),
  (⟨(some 78), .bin .geq (.t 75) (.t 77), (some (70, false))⟩, [75, 77, 70]),
  (⟨(some 79), .pick (.t 70) (.k (.B true)) (.t 78), none⟩, [70, 78]),
  (⟨(some 80), .mv (.t 79), none⟩, [79]),
  (⟨(some 81), .mv (.t 5), (some (80, false))⟩, [5, 80]),
  (⟨(some 82), .mv (.t 7), (some (80, false))⟩, [7, 80]),
  (⟨(some 83), .iad 2 (.t 81) (.t 82), (some (80, false))⟩, [81, 82, 80]),
  (⟨(some 84), .fad 1 (.t 83), (some (80, false))⟩, [83, 80]),
  (⟨(some 85), .ld none (.t 84), (some (80, false))⟩, [84, 80]),
  (⟨(some 86), .mv (.t 0), (some (80, false))⟩, [0, 80]),
  (⟨(some 87), .len (.t 86), (some (80, false))⟩, [86, 80]),
  (⟨(some 88), .bin .geq (.t 85) (.t 87), (some (80, false))⟩, [85, 87, 80]),
  (⟨(some 89), .pick (.t 80) (.k (.B true)) (.t 88), none⟩, [80, 88])]
abbrev c4_18 : AC := .reg [⟨(some 4), .mv (.k (.B false)), none⟩] false
abbrev c4_19 : AC := .seq c4_18 .ret
abbrev c4_20 : AC := .cond (.t 89) c4_19 .skip
abbrev c4_21 : AC := .seq c4_17 c4_20
abbrev c4_22 : AC := .reg [⟨(some 8), .mv (.k (.I 0)), none⟩] false
abbrev c4_23 : AC := .reg [⟨(some 90), .mv (.t 8), none⟩,
  ⟨(some 91), .mv (.t 5), none⟩,
  ⟨(some 92), .len (.t 91), none⟩,
  ⟨(some 93), .bin .lss (.t 90) (.t 92), none⟩] false
abbrev c4_24 : AC := .cond (.t 93) .skip (.exit 2)
abbrev c4_25 : AC := .seq c4_23 c4_24
abbrev c4_26 : AC := .regD [(⟨(some 96), .mv (.t 5), none⟩, [5]),
  (⟨(some 97), .mv (.t 8), none⟩, [8]),
  (⟨(some 98), .iad 2 (.t 96) (.t 97), none⟩, [96, 97]),
  (⟨(some 99), .fad 0 (.t 98), none⟩, [98]),
  (⟨(some 100), .ld none (.t 99), none⟩, [99]),
  (⟨(some 101), .mv (.t 5), none⟩, [5]),
  (⟨(some 102), .mv (.t 7), none⟩, [7]),
  (⟨(some 103), .iad 2 (.t 101) (.t 102), none⟩, [101, 102]),
  (⟨(some 104), .fad 1 (.t 103), none⟩, [103]),
  (⟨(some 105), .ld none (.t 104), none⟩, [104]),
  (⟨(some 106), .bin .neq (.t 100) (.t 105), none⟩, [100, 105])]
abbrev c4_27 : AC := .cond (.t 106) (.exit 3) .skip
abbrev c4_28 : AC := .seq c4_26 c4_27
abbrev c4_29 : AC := .reg [⟨(some 9), .mv (.k (.B false)), none⟩] false
abbrev c4_30 : AC := .reg [⟨(some 10), .mv (.k (.I 0)), none⟩] false
abbrev c4_31 : AC := .reg [⟨(some 107), .mv (.t 10), none⟩,
  ⟨(some 108), .mv (.t 5), none⟩,
  ⟨(some 109), .len (.t 108), none⟩,
  ⟨(some 110), .bin .lss (.t 107) (.t 109), none⟩] false
abbrev c4_32 : AC := .cond (.t 110) .skip (.exit 4)
abbrev c4_33 : AC := .seq c4_31 c4_32
abbrev c4_34 : AC := .regD [(⟨(some 113), .mv (.t 9), none⟩, [9]),
  (⟨(some 114), .mv (.t 113), none⟩, [113]),
  (⟨(some 115), .mv (.t 5), (some (114, false))⟩, [5, 114]),
  (⟨(some 116), .mv (.t 10), (some (114, false))⟩, [10, 114]),
  (⟨(some 117), .iad 2 (.t 115) (.t 116), (some (114, false))⟩, [115, 116, 114]),
  (⟨(some 118), .ld (some 2) (.t 117), (some (114, false))⟩, [117, 114]),
  (⟨(some 119), .mv (.t 5), (some (114, false))⟩, [5, 114]),
  (⟨(some 120), .mv (.t 7), (some (114, false))⟩, [7, 114]),
  (⟨(some 121), .iad 2 (.t 119) (.t 120), (some (114, false))⟩, [119, 120, 114]),
  (⟨(some 122), .fad 0 (.t 121), (some (114, false))⟩, [121, 114]),
  (⟨(some 123), .ld none (.t 122), (some (114, false))⟩, [122, 114]),
  (⟨(some 124), .mv (.t 5), (some (114, false))⟩, [5, 114]),
  (⟨(some 125), .mv (.t 8), (some (114, false))⟩, [8, 114]),
  (⟨(some 126), .iad 2 (.t 124) (.t 125), (some (114, false))⟩, [124, 125, 114]),
  (⟨(some 127), .fad 1 (.t 126), (some (114, false))⟩, [126, 114]),
  (⟨(some 128), .ld none (.t 127), (some (114, false))⟩, [127, 114]),
  (⟨(some 129), .build [(.I 0), (.I 0)] [(0, 1, (.t 123)), (1, 1, (.t 128))], (some (114, false))⟩, [123, 128, 114]),
  (⟨(some 130), .eqs false [false, false] (.t 118) (.t 129), (some (114, false))⟩, [118, 129, 114]),
  (⟨(some 131), .pick (.t 114) (.k (.B true)) (.t 130), none⟩, [114, 130]),
  (⟨(some 9), .mv (.t 131), none⟩, [131])]
abbrev c4_35 : AC := .block 5 c4_34
abbrev c4_36 : AC := .reg [⟨(some 111), .mv (.t 10), none⟩,
  ⟨(some 112), .bin .add (.t 111) (.k (.I 1)), none⟩,
  ⟨(some 10), .mv (.t 112), none⟩] false
abbrev c4_37 : AC := .seq c4_35 c4_36
abbrev c4_38 : AC := .seq c4_33 c4_37
abbrev c4_39 : AC := .loop c4_38
abbrev c4_40 : AC := .block 4 c4_39
abbrev c4_41 : AC := .seq c4_30 c4_40
abbrev c4_42 : AC := .reg [⟨(some 132), .mv (.t 9), none⟩,
  ⟨(some 133), .not (.t 132), none⟩] false
abbrev c4_43 : AC := .reg [⟨(some 4), .mv (.k (.B false)), none⟩] false
abbrev c4_44 : AC := .seq c4_43 .ret
abbrev c4_45 : AC := .cond (.t 133) c4_44 .skip
abbrev c4_46 : AC := .seq c4_42 c4_45
abbrev c4_47 : AC := .seq c4_41 c4_46
abbrev c4_48 : AC := .seq c4_29 c4_47
abbrev c4_49 : AC := .seq c4_28 c4_48
abbrev c4_50 : AC := .block 3 c4_49
abbrev c4_51 : AC := .reg [⟨(some 94), .mv (.t 8), none⟩,
  ⟨(some 95), .bin .add (.t 94) (.k (.I 1)), none⟩,
  ⟨(some 8), .mv (.t 95), none⟩] false
abbrev c4_52 : AC := .seq c4_50 c4_51
abbrev c4_53 : AC := .seq c4_25 c4_52
abbrev c4_54 : AC := .loop c4_53
abbrev c4_55 : AC := .block 2 c4_54
abbrev c4_56 : AC := .seq c4_22 c4_55
abbrev c4_57 : AC := .seq c4_21 c4_56
abbrev c4_58 : AC := .block 1 c4_57
abbrev c4_59 : AC := .reg [⟨(some 41), .mv (.t 7), none⟩,
  ⟨(some 42), .bin .add (.t 41) (.k (.I 1)), none⟩,
  ⟨(some 7), .mv (.t 42), none⟩] false
abbrev c4_60 : AC := .seq c4_58 c4_59
abbrev c4_61 : AC := .seq c4_16 c4_60
abbrev c4_62 : AC := .loop c4_61
abbrev c4_63 : AC := .block 0 c4_62
abbrev c4_64 : AC := .seq c4_13 c4_63
abbrev c4_65 : AC := .reg [⟨(some 4), .mv (.k (.B true)), none⟩] false
abbrev c4_66 : AC := .seq c4_65 .ret
abbrev c4_67 : AC := .seq c4_64 c4_66
abbrev c4_68 : AC := .seq c4_12 c4_67
abbrev c4_69 : AC := .seq c4_7 c4_68
abbrev c4_70 : AC := .seq c4_6 c4_69
abbrev c4_71 : AC := .seq c4_1 c4_70
abbrev c4 : AC := c4_71
theorem code4 : fnCode Try.prog 4 = some (c4, [4], 134) := by kernel_rfl
/- coinage/coinagelaw21.WearArcs -/
abbrev c5_1 : AC := .reg [⟨(some 4), .mv (.k (.B false)), none⟩] false
abbrev c5_2 : AC := .reg [⟨(some 14), .call 10 [], none⟩,
  ⟨(some 15), .not (.t 14), none⟩,
  ⟨(some 16), .mv (.t 15), none⟩,
  ⟨(some 17), .mv (.t 0), (some (16, false))⟩,
  ⟨(some 18), .call 13 [(.t 17)], (some (16, false))⟩,
  ⟨(some 19), .not (.t 18), (some (16, false))⟩,
  ⟨(some 20), .pick (.t 16) (.k (.B true)) (.t 19), none⟩] false
abbrev c5_3 : AC := .reg [⟨(some 21), .call 10 [], none⟩,
  ⟨(some 4), .mv (.t 21), none⟩] false
abbrev c5_4 : AC := .seq c5_3 .ret
abbrev c5_5 : AC := .cond (.t 20) c5_4 .skip
abbrev c5_6 : AC := .seq c5_2 c5_5
abbrev c5_7 : AC := .reg [⟨(some 22), .bslice 23 7 [], none⟩,
  ⟨(some 23), .mv (.t 0), none⟩,
  ⟨(some 24), .app 23 7 56 (.t 22) (.t 23), none⟩,
  ⟨(some 5), .mv (.t 24), none⟩] false
abbrev c5_8 : AC := .reg [⟨(some 26), .mv (.t 5), none⟩,
  ⟨(some 27), .mv (.t 1), none⟩,
  ⟨(some 28), .call 14 [(.t 26), (.t 27)], none⟩,
  ⟨(some 25), .mv (.t 28), none⟩,
  ⟨(some 29), .ext (.t 25) 0, none⟩,
  ⟨(some 30), .ext (.t 25) 1, none⟩,
  ⟨(some 6), .mv (.t 29), none⟩,
  ⟨(some 7), .mv (.t 30), none⟩] false
abbrev c5_9 : AC := .reg [⟨(some 32), .mv (.t 5), none⟩,
  ⟨(some 33), .call 16 [(.t 32)], none⟩,
  ⟨(some 31), .mv (.t 33), none⟩,
  ⟨(some 34), .ext (.t 31) 0, none⟩,
  ⟨(some 35), .ext (.t 31) 1, none⟩,
  ⟨(some 8), .mv (.t 34), none⟩,
  ⟨(some 9), .mv (.t 35), none⟩] false
abbrev c5_10 : AC := .reg [⟨(some 37), .mv (.t 0), none⟩,
  ⟨(some 38), .mv (.t 1), none⟩,
  ⟨(some 39), .call 17 [(.t 37), (.t 38)], none⟩,
  ⟨(some 36), .mv (.t 39), none⟩,
  ⟨(some 40), .ext (.t 36) 0, none⟩,
  ⟨(some 41), .ext (.t 36) 1, none⟩,
  ⟨(some 10), .mv (.t 40), none⟩,
  ⟨(some 11), .mv (.t 41), none⟩] false
abbrev c5_11 : AC := .reg [⟨(some 43), .mv (.t 0), none⟩,
  ⟨(some 44), .call 18 [(.t 43)], none⟩,
  ⟨(some 42), .mv (.t 44), none⟩,
  ⟨(some 45), .ext (.t 42) 0, none⟩,
  ⟨(some 46), .ext (.t 42) 1, none⟩,
  ⟨(some 12), .mv (.t 45), none⟩,
  ⟨(some 13), .mv (.t 46), none⟩] false
abbrev c5_12 : AC := .reg [⟨(some 47), .mv (.t 7), none⟩,
  ⟨(some 48), .mv (.t 11), none⟩,
  ⟨(some 49), .bin .eql (.t 47) (.t 48), none⟩,
  ⟨(some 50), .mv (.t 49), none⟩,
  ⟨(some 51), .mv (.t 9), (some (50, true))⟩,
  ⟨(some 52), .mv (.t 13), (some (50, true))⟩,
  ⟨(some 53), .bin .eql (.t 51) (.t 52), (some (50, true))⟩,
  ⟨(some 54), .pick (.t 50) (.t 53) (.k (.B false)), none⟩,
  ⟨(some 55), .mv (.t 54), none⟩,
  ⟨(some 56), .mv (.t 6), (some (55, true))⟩,
  ⟨(some 57), .mv (.t 10), (some (55, true))⟩,
  ⟨(some 58), .call 19 [(.t 56), (.t 57)], (some (55, true))⟩,
  ⟨(some 59), .pick (.t 55) (.t 58) (.k (.B false)), none⟩,
  ⟨(some 60), .mv (.t 59), none⟩,
  ⟨(some 61), .mv (.t 8), (some (60, true))⟩,
  ⟨(some 62), .mv (.t 12), (some (60, true))⟩,
  ⟨(some 63), .call 19 [(.t 61), (.t 62)], (some (60, true))⟩,
  ⟨(some 64), .pick (.t 60) (.t 63) (.k (.B false)), none⟩,
  ⟨(some 65), .mv (.t 64), none⟩,
  ⟨(some 66), .mv (.t 5), (some (65, true))⟩,
  ⟨(some 67), .mv (.t 0), (some (65, true))⟩,
  ⟨(some 68), .call 20 [(.t 66), (.t 67)], (some (65, true))⟩,
  ⟨(some 69), .pick (.t 65) (.t 68) (.k (.B false)), none⟩,
  ⟨(some 4), .mv (.t 69), none⟩] false
abbrev c5_13 : AC := .seq c5_12 .ret
abbrev c5_14 : AC := .seq c5_11 c5_13
abbrev c5_15 : AC := .seq c5_10 c5_14
abbrev c5_16 : AC := .seq c5_9 c5_15
abbrev c5_17 : AC := .seq c5_8 c5_16
abbrev c5_18 : AC := .seq c5_7 c5_17
abbrev c5_19 : AC := .seq c5_6 c5_18
abbrev c5_20 : AC := .seq c5_1 c5_19
abbrev c5 : AC := c5_20
theorem code5 : fnCode Try.prog 5 = some (c5, [4], 70) := by kernel_rfl
/- coinage/coinagelaw21.WearClashes -/
abbrev c6_1 : AC := .reg [⟨(some 2), .mv (.k (.B false)), none⟩] false
abbrev c6_2 : AC := .reg [⟨(some 14), .call 10 [], none⟩,
  ⟨(some 15), .not (.t 14), none⟩,
  ⟨(some 16), .mv (.t 15), none⟩,
  ⟨(some 17), .mv (.t 0), (some (16, false))⟩,
  ⟨(some 18), .call 13 [(.t 17)], (some (16, false))⟩,
  ⟨(some 19), .not (.t 18), (some (16, false))⟩,
  ⟨(some 20), .pick (.t 16) (.k (.B true)) (.t 19), none⟩] false
abbrev c6_3 : AC := .reg [⟨(some 21), .call 10 [], none⟩,
  ⟨(some 2), .mv (.t 21), none⟩] false
abbrev c6_4 : AC := .seq c6_3 .ret
abbrev c6_5 : AC := .cond (.t 20) c6_4 .skip
abbrev c6_6 : AC := .seq c6_2 c6_5
abbrev c6_7 : AC := .reg [⟨(some 23), .mv (.t 0), none⟩,
  ⟨(some 24), .call 21 [(.t 23)], none⟩,
  ⟨(some 22), .mv (.t 24), none⟩,
  ⟨(some 25), .ext (.t 22) 0, none⟩,
  ⟨(some 26), .ext (.t 22) 1, none⟩,
  ⟨(some 3), .mv (.t 25), none⟩,
  ⟨(some 4), .mv (.t 26), none⟩] false
abbrev c6_8 : AC := .reg [⟨(some 28), .mv (.t 0), none⟩,
  ⟨(some 29), .call 16 [(.t 28)], none⟩,
  ⟨(some 27), .mv (.t 29), none⟩,
  ⟨(some 30), .ext (.t 27) 0, none⟩,
  ⟨(some 31), .ext (.t 27) 1, none⟩,
  ⟨(some 5), .mv (.t 30), none⟩,
  ⟨(some 6), .mv (.t 31), none⟩] false
abbrev c6_9 : AC := .reg [⟨(some 32), .mv (.t 4), none⟩,
  ⟨(some 33), .bin .neq (.t 32) (.k (.I 0)), none⟩,
  ⟨(some 34), .mv (.t 33), none⟩,
  ⟨(some 35), .mv (.t 6), (some (34, false))⟩,
  ⟨(some 36), .bin .neq (.t 35) (.k (.I 0)), (some (34, false))⟩,
  ⟨(some 37), .pick (.t 34) (.k (.B true)) (.t 36), none⟩] false
abbrev c6_10 : AC := .reg [⟨(some 38), .mv (.t 4), none⟩,
  ⟨(some 39), .mv (.t 6), none⟩,
  ⟨(some 40), .bin .eql (.t 38) (.t 39), none⟩,
  ⟨(some 41), .mv (.t 40), none⟩,
  ⟨(some 42), .mv (.t 3), (some (41, true))⟩,
  ⟨(some 43), .len (.t 42), (some (41, true))⟩,
  ⟨(some 44), .bin .eql (.t 43) (.k (.I 0)), (some (41, true))⟩,
  ⟨(some 45), .pick (.t 41) (.t 44) (.k (.B false)), none⟩,
  ⟨(some 46), .mv (.t 45), none⟩,
  ⟨(some 47), .mv (.t 5), (some (46, true))⟩,
  ⟨(some 48), .len (.t 47), (some (46, true))⟩,
  ⟨(some 49), .bin .eql (.t 48) (.k (.I 0)), (some (46, true))⟩,
  ⟨(some 50), .pick (.t 46) (.t 49) (.k (.B false)), none⟩,
  ⟨(some 2), .mv (.t 50), none⟩] false
abbrev c6_11 : AC := .seq c6_10 .ret
abbrev c6_12 : AC := .cond (.t 37) c6_11 .skip
abbrev c6_13 : AC := .seq c6_9 c6_12
abbrev c6_14 : AC := .reg [⟨(some 7), .mv (.k (.I 0)), none⟩] false
abbrev c6_15 : AC := .reg [⟨(some 8), .mv (.k (.I 0)), none⟩] false
abbrev c6_16 : AC := .reg [⟨(some 51), .mv (.t 8), none⟩,
  ⟨(some 52), .mv (.t 0), none⟩,
  ⟨(some 53), .len (.t 52), none⟩,
  ⟨(some 54), .bin .lss (.t 51) (.t 53), none⟩] false
abbrev c6_17 : AC := .cond (.t 54) .skip (.exit 0)
abbrev c6_18 : AC := .seq c6_16 c6_17
abbrev c6_19 : AC := .reg [⟨(some 57), .mv (.t 8), none⟩,
  ⟨(some 58), .bin .add (.t 57) (.k (.I 1)), none⟩,
  ⟨(some 9), .mv (.t 58), none⟩] false
abbrev c6_20 : AC := .reg [⟨(some 59), .mv (.t 9), none⟩,
  ⟨(some 60), .mv (.t 0), none⟩,
  ⟨(some 61), .len (.t 60), none⟩,
  ⟨(some 62), .bin .lss (.t 59) (.t 61), none⟩] false
abbrev c6_21 : AC := .cond (.t 62) .skip (.exit 2)
abbrev c6_22 : AC := .seq c6_20 c6_21
abbrev c6_23 : AC := .reg [⟨(some 65), .mv (.t 7), none⟩,
  ⟨(some 66), .mv (.t 3), none⟩,
  ⟨(some 67), .len (.t 66), none⟩,
  ⟨(some 68), .bin .lss (.t 65) (.t 67), none⟩,
  ⟨(some 69), .mv (.t 68), none⟩,
  ⟨(some 70), .mv (.t 3), (some (69, true))⟩,
  ⟨(some 71), .mv (.t 7), (some (69, true))⟩,
  ⟨(some 72), .iad 2 (.t 70) (.t 71), (some (69, true))⟩,
  ⟨(some 73), .ld (some 2) (.t 72), (some (69, true))⟩,
  ⟨(some 74), .mv (.t 8), (some (69, true))⟩,
  ⟨(some 75), .mv (.t 9), (some (69, true))⟩,
  ⟨(some 76), .build [(.I 0), (.I 0)] [(0, 1, (.t 74)), (1, 1, (.t 75))], (some (69, true))⟩,
  ⟨(some 77), .eqs false [false, false] (.t 73) (.t 76), (some (69, true))⟩,
  ⟨(some 78), .pick (.t 69) (.t 77) (.k (.B false)), none⟩,
  ⟨(some 10), .mv (.t 78), none⟩] false
abbrev c6_24 : AC := .reg [⟨(some 79), .mv (.t 10), none⟩] false
abbrev c6_25 : AC := .reg [⟨(some 80), .mv (.t 7), none⟩,
  ⟨(some 81), .bin .add (.t 80) (.k (.I 1)), none⟩,
  ⟨(some 7), .mv (.t 81), none⟩] false
abbrev c6_26 : AC := .cond (.t 79) c6_25 .skip
abbrev c6_27 : AC := .seq c6_24 c6_26
abbrev c6_28 : AC := .reg [⟨(some 11), .mv (.k (.B false)), none⟩,
  ⟨(some 12), .mv (.k (.B false)), none⟩] false
abbrev c6_29 : AC := .reg [⟨(some 13), .mv (.k (.I 0)), none⟩] false
abbrev c6_30 : AC := .reg [⟨(some 82), .mv (.t 13), none⟩,
  ⟨(some 83), .mv (.t 5), none⟩,
  ⟨(some 84), .len (.t 83), none⟩,
  ⟨(some 85), .bin .lss (.t 82) (.t 84), none⟩] false
abbrev c6_31 : AC := .cond (.t 85) .skip (.exit 4)
abbrev c6_32 : AC := .seq c6_30 c6_31
abbrev c6_33 : AC := .reg [⟨(some 88), .mv (.t 11), none⟩,
  ⟨(some 89), .mv (.t 88), none⟩,
  ⟨(some 90), .mv (.t 5), (some (89, false))⟩,
  ⟨(some 91), .mv (.t 13), (some (89, false))⟩,
  ⟨(some 92), .iad 2 (.t 90) (.t 91), (some (89, false))⟩,
  ⟨(some 93), .ld (some 2) (.t 92), (some (89, false))⟩,
  ⟨(some 94), .mv (.t 8), (some (89, false))⟩,
  ⟨(some 95), .mv (.t 9), (some (89, false))⟩,
  ⟨(some 96), .build [(.I 0), (.I 0)] [(0, 1, (.t 94)), (1, 1, (.t 95))], (some (89, false))⟩,
  ⟨(some 97), .eqs false [false, false] (.t 93) (.t 96), (some (89, false))⟩,
  ⟨(some 98), .pick (.t 89) (.k (.B true)) (.t 97), none⟩,
  ⟨(some 11), .mv (.t 98), none⟩] false
abbrev c6_34 : AC := .reg [⟨(some 99), .mv (.t 12), none⟩,
  ⟨(some 100), .mv (.t 99), none⟩,
  ⟨(some 101), .mv (.t 5), (some (100, false))⟩,
  ⟨(some 102), .mv (.t 13), (some (100, false))⟩,
  ⟨(some 103), .iad 2 (.t 101) (.t 102), (some (100, false))⟩,
  ⟨(some 104), .ld (some 2) (.t 103), (some (100, false))⟩,
  ⟨(some 105), .mv (.t 9), (some (100, false))⟩,
  ⟨(some 106), .mv (.t 8), (some (100, false))⟩,
  ⟨(some 107), .build [(.I 0), (.I 0)] [(0, 1, (.t 105)), (1, 1, (.t 106))], (some (100, false))⟩,
  ⟨(some 108), .eqs false [false, false] (.t 104) (.t 107), (some (100, false))⟩,
  ⟨(some 109), .pick (.t 100) (.k (.B true)) (.t 108), none⟩,
  ⟨(some 12), .mv (.t 109), none⟩] false
abbrev c6_35 : AC := .seq c6_33 c6_34
abbrev c6_36 : AC := .block 5 c6_35
abbrev c6_37 : AC := .reg [⟨(some 86), .mv (.t 13), none⟩,
  ⟨(some 87), .bin .add (.t 86) (.k (.I 1)), none⟩,
  ⟨(some 13), .mv (.t 87), none⟩] false
abbrev c6_38 : AC := .seq c6_36 c6_37
abbrev c6_39 : AC := .seq c6_32 c6_38
abbrev c6_40 : AC := .loop c6_39
abbrev c6_41 : AC := .block 4 c6_40
abbrev c6_42 : AC := .seq c6_29 c6_41
abbrev c6_43 : AC := .regD [(⟨(some 110), .mv (.t 10), none⟩, [10]),
  (⟨(some 111), .mv (.t 0), none⟩, [0]),
  (⟨(some 112), .mv (.t 8), none⟩, [8]),
  (⟨(some 113), .iad 7 (.t 111) (.t 112), none⟩, [111, 112]),
  (⟨(some 114), .ld (some 7) (.t 113), none⟩, [113]),
  (⟨(some 115), .mv (.t 0), none⟩, [0]),
  (⟨(some 116), .mv (.t 9), none⟩, [9]),
  (⟨(some 117), .iad 7 (.t 115) (.t 116), none⟩, [115, 116]),
  (⟨(some 118), .ld (some 7) (.t 117), none⟩, [117]),
  (⟨(some 119), .call 11 [(.t 114), (.t 118)], none⟩, [114, 118]),
  (⟨(some 120), .bin .eql (.t 119) (.k (.I 3)), none⟩, [119]),
  (⟨(some 121), .beq true (.t 110) (.t 120), none⟩, [110, 120]),
  (⟨(some 122), .mv (.t 121), none⟩, [121]),
  (⟨(some 123), .mv (.t 10), (some (122, false))⟩, [10, 122]),
  (⟨(some 124), .mv (.t 11), (some (122, false))⟩, [11, 122]),
  (⟨(some 125), .mv (.t 124), (some (122, false))⟩, [124, 122]),
  (⟨(some 126), .mv (.t 12), (some (125, true))⟩, [12, 125]),
  (⟨(some 127), .pick (.t 125) (.t 126) (.k (.B false)), (some (122, false))⟩, [125, 126, 122]),
  (⟨(some 128), .beq true (.t 123) (.t 127), (some (122, false))⟩, [123, 127, 122]),
  (⟨(some 129), .pick (.t 122) (.k (.B true)) (.t 128), none⟩, [122, 128])]
abbrev c6_44 : AC := .reg [⟨(some 2), .mv (.k (.B false)), none⟩] false
abbrev c6_45 : AC := .seq c6_44 .ret
abbrev c6_46 : AC := .cond (.t 129) c6_45 .skip
abbrev c6_47 : AC := .seq c6_43 c6_46
abbrev c6_48 : AC := .seq c6_42 c6_47
abbrev c6_49 : AC := .seq c6_28 c6_48
abbrev c6_50 : AC := .seq c6_27 c6_49
abbrev c6_51 : AC := .seq c6_23 c6_50
abbrev c6_52 : AC := .block 3 c6_51
abbrev c6_53 : AC := .reg [⟨(some 63), .mv (.t 9), none⟩,
  ⟨(some 64), .bin .add (.t 63) (.k (.I 1)), none⟩,
  ⟨(some 9), .mv (.t 64), none⟩] false
abbrev c6_54 : AC := .seq c6_52 c6_53
abbrev c6_55 : AC := .seq c6_22 c6_54
abbrev c6_56 : AC := .loop c6_55
abbrev c6_57 : AC := .block 2 c6_56
abbrev c6_58 : AC := .seq c6_19 c6_57
abbrev c6_59 : AC := .block 1 c6_58
abbrev c6_60 : AC := .reg [⟨(some 55), .mv (.t 8), none⟩,
  ⟨(some 56), .bin .add (.t 55) (.k (.I 1)), none⟩,
  ⟨(some 8), .mv (.t 56), none⟩] false
abbrev c6_61 : AC := .seq c6_59 c6_60
abbrev c6_62 : AC := .seq c6_18 c6_61
abbrev c6_63 : AC := .loop c6_62
abbrev c6_64 : AC := .block 0 c6_63
abbrev c6_65 : AC := .seq c6_15 c6_64
abbrev c6_66 : AC := .reg [⟨(some 130), .mv (.t 7), none⟩,
  ⟨(some 131), .mv (.t 3), none⟩,
  ⟨(some 132), .len (.t 131), none⟩,
  ⟨(some 133), .bin .eql (.t 130) (.t 132), none⟩,
  ⟨(some 2), .mv (.t 133), none⟩] false
abbrev c6_67 : AC := .seq c6_66 .ret
abbrev c6_68 : AC := .seq c6_65 c6_67
abbrev c6_69 : AC := .seq c6_14 c6_68
abbrev c6_70 : AC := .seq c6_13 c6_69
abbrev c6_71 : AC := .seq c6_8 c6_70
abbrev c6_72 : AC := .seq c6_7 c6_71
abbrev c6_73 : AC := .seq c6_6 c6_72
abbrev c6_74 : AC := .seq c6_1 c6_73
abbrev c6 : AC := c6_74
theorem code6 : fnCode Try.prog 6 = some (c6, [2], 134) := by kernel_rfl
/- coinage/coinagelaw21.WearPairs -/
abbrev c7_1 : AC := .reg [⟨(some 3), .box 47 (some 2) (.t 1), none⟩,
  ⟨(some 4), .mv (.k (.B false)), none⟩] false
abbrev c7_2 : AC := .reg [⟨(some 17), .call 10 [], none⟩,
  ⟨(some 18), .not (.t 17), none⟩,
  ⟨(some 19), .mv (.t 18), none⟩,
  ⟨(some 20), .mv (.t 0), (some (19, false))⟩,
  ⟨(some 21), .call 13 [(.t 20)], (some (19, false))⟩,
  ⟨(some 22), .not (.t 21), (some (19, false))⟩,
  ⟨(some 23), .pick (.t 19) (.k (.B true)) (.t 22), none⟩] false
abbrev c7_3 : AC := .reg [⟨(some 24), .call 10 [], none⟩,
  ⟨(some 4), .mv (.t 24), none⟩] false
abbrev c7_4 : AC := .seq c7_3 .ret
abbrev c7_5 : AC := .cond (.t 23) c7_4 .skip
abbrev c7_6 : AC := .seq c7_2 c7_5
abbrev c7_7 : AC := .reg [⟨(some 26), .mv (.t 0), none⟩,
  ⟨(some 27), .call 21 [(.t 26)], none⟩,
  ⟨(some 25), .mv (.t 27), none⟩,
  ⟨(some 28), .ext (.t 25) 0, none⟩,
  ⟨(some 29), .ext (.t 25) 1, none⟩,
  ⟨(some 5), .mv (.t 28), none⟩,
  ⟨(some 6), .mv (.t 29), none⟩] false
abbrev c7_8 : AC := .reg [⟨(some 31), .mv (.t 0), none⟩,
  ⟨(some 32), .call 22 [(.t 31)], none⟩,
  ⟨(some 30), .mv (.t 32), none⟩,
  ⟨(some 33), .ext (.t 30) 0, none⟩,
  ⟨(some 34), .ext (.t 30) 1, none⟩,
  ⟨(some 7), .mv (.t 33), none⟩,
  ⟨(some 8), .mv (.t 34), none⟩] false
abbrev c7_9 : AC := .reg [⟨(some 36), .mv (.t 0), none⟩,
  ⟨(some 37), .ld (some 2) (.t 3), none⟩,
  ⟨(some 38), .call 23 [(.t 36), (.t 37)], none⟩,
  ⟨(some 35), .mv (.t 38), none⟩,
  ⟨(some 39), .ext (.t 35) 0, none⟩,
  ⟨(some 40), .ext (.t 35) 1, none⟩,
  ⟨(some 9), .mv (.t 39), none⟩,
  ⟨(some 10), .mv (.t 40), none⟩] false
abbrev c7_10 : AC := .reg [⟨(some 42), .mv (.t 0), none⟩,
  ⟨(some 43), .call 24 [(.t 42)], none⟩,
  ⟨(some 41), .mv (.t 43), none⟩,
  ⟨(some 44), .ext (.t 41) 0, none⟩,
  ⟨(some 45), .ext (.t 41) 1, none⟩,
  ⟨(some 11), .mv (.t 44), none⟩,
  ⟨(some 12), .mv (.t 45), none⟩] false
abbrev c7_11 : AC := .reg [⟨(some 47), .mv (.t 0), none⟩,
  ⟨(some 48), .call 25 [(.t 47)], none⟩,
  ⟨(some 46), .mv (.t 48), none⟩,
  ⟨(some 49), .ext (.t 46) 0, none⟩,
  ⟨(some 50), .ext (.t 46) 1, none⟩,
  ⟨(some 13), .mv (.t 49), none⟩,
  ⟨(some 14), .mv (.t 50), none⟩] false
abbrev c7_12 : AC := .reg [⟨(some 52), .mv (.t 0), none⟩,
  ⟨(some 53), .ld (some 2) (.t 3), none⟩,
  ⟨(some 54), .call 26 [(.t 52), (.t 53)], none⟩,
  ⟨(some 51), .mv (.t 54), none⟩,
  ⟨(some 55), .ext (.t 51) 0, none⟩,
  ⟨(some 56), .ext (.t 51) 1, none⟩,
  ⟨(some 15), .mv (.t 55), none⟩,
  ⟨(some 16), .mv (.t 56), none⟩] false
abbrev c7_13 : AC := .reg [⟨(some 57), .mv (.t 6), none⟩,
  ⟨(some 58), .mv (.t 12), none⟩,
  ⟨(some 59), .bin .eql (.t 57) (.t 58), none⟩,
  ⟨(some 60), .mv (.t 59), none⟩,
  ⟨(some 61), .mv (.t 8), (some (60, true))⟩,
  ⟨(some 62), .mv (.t 14), (some (60, true))⟩,
  ⟨(some 63), .bin .eql (.t 61) (.t 62), (some (60, true))⟩,
  ⟨(some 64), .pick (.t 60) (.t 63) (.k (.B false)), none⟩,
  ⟨(some 65), .mv (.t 64), none⟩,
  ⟨(some 66), .mv (.t 10), (some (65, true))⟩,
  ⟨(some 67), .mv (.t 16), (some (65, true))⟩,
  ⟨(some 68), .bin .eql (.t 66) (.t 67), (some (65, true))⟩,
  ⟨(some 69), .pick (.t 65) (.t 68) (.k (.B false)), none⟩,
  ⟨(some 70), .mv (.t 69), none⟩,
  ⟨(some 71), .mv (.t 5), (some (70, true))⟩,
  ⟨(some 72), .mv (.t 11), (some (70, true))⟩,
  ⟨(some 73), .call 27 [(.t 71), (.t 72)], (some (70, true))⟩,
  ⟨(some 74), .pick (.t 70) (.t 73) (.k (.B false)), none⟩,
  ⟨(some 75), .mv (.t 74), none⟩,
  ⟨(some 76), .mv (.t 7), (some (75, true))⟩,
  ⟨(some 77), .mv (.t 13), (some (75, true))⟩,
  ⟨(some 78), .call 27 [(.t 76), (.t 77)], (some (75, true))⟩,
  ⟨(some 79), .pick (.t 75) (.t 78) (.k (.B false)), none⟩,
  ⟨(some 80), .mv (.t 79), none⟩,
  ⟨(some 81), .mv (.t 9), (some (80, true))⟩,
  ⟨(some 82), .mv (.t 15), (some (80, true))⟩,
  ⟨(some 83), .call 28 [(.t 81), (.t 82)], (some (80, true))⟩,
  ⟨(some 84), .pick (.t 80) (.t 83) (.k (.B false)), none⟩,
  ⟨(some 4), .mv (.t 84), none⟩] false
abbrev c7_14 : AC := .seq c7_13 .ret
abbrev c7_15 : AC := .seq c7_12 c7_14
abbrev c7_16 : AC := .seq c7_11 c7_15
abbrev c7_17 : AC := .seq c7_10 c7_16
abbrev c7_18 : AC := .seq c7_9 c7_17
abbrev c7_19 : AC := .seq c7_8 c7_18
abbrev c7_20 : AC := .seq c7_7 c7_19
abbrev c7_21 : AC := .seq c7_6 c7_20
abbrev c7_22 : AC := .seq c7_1 c7_21
abbrev c7 : AC := c7_22
theorem code7 : fnCode Try.prog 7 = some (c7, [4], 85) := by kernel_rfl
/- coinage/coinagelaw21.WearRenumbers -/
abbrev c8_1 : AC := .reg [⟨(some 2), .mv (.k (.B false)), none⟩] false
abbrev c8_2 : AC := .reg [⟨(some 7), .call 10 [], none⟩,
  ⟨(some 8), .not (.t 7), none⟩,
  ⟨(some 9), .mv (.t 8), none⟩,
  ⟨(some 10), .mv (.t 0), (some (9, false))⟩,
  ⟨(some 11), .call 13 [(.t 10)], (some (9, false))⟩,
  ⟨(some 12), .not (.t 11), (some (9, false))⟩,
  ⟨(some 13), .pick (.t 9) (.k (.B true)) (.t 12), none⟩] false
abbrev c8_3 : AC := .reg [⟨(some 14), .call 10 [], none⟩,
  ⟨(some 2), .mv (.t 14), none⟩] false
abbrev c8_4 : AC := .seq c8_3 .ret
abbrev c8_5 : AC := .cond (.t 13) c8_4 .skip
abbrev c8_6 : AC := .seq c8_2 c8_5
abbrev c8_7 : AC := .reg [⟨(some 16), .mv (.t 0), none⟩,
  ⟨(some 17), .call 29 [(.t 16)], none⟩,
  ⟨(some 15), .mv (.t 17), none⟩,
  ⟨(some 18), .ext (.t 15) 0, none⟩,
  ⟨(some 19), .ext (.t 15) 1, none⟩,
  ⟨(some 3), .mv (.t 18), none⟩,
  ⟨(some 4), .mv (.t 19), none⟩] false
abbrev c8_8 : AC := .reg [⟨(some 21), .mv (.t 0), none⟩,
  ⟨(some 22), .call 30 [(.t 21)], none⟩,
  ⟨(some 20), .mv (.t 22), none⟩,
  ⟨(some 23), .ext (.t 20) 0, none⟩,
  ⟨(some 24), .ext (.t 20) 1, none⟩,
  ⟨(some 5), .mv (.t 23), none⟩,
  ⟨(some 6), .mv (.t 24), none⟩] false
abbrev c8_9 : AC := .reg [⟨(some 25), .mv (.t 4), none⟩,
  ⟨(some 26), .mv (.t 6), none⟩,
  ⟨(some 27), .bin .eql (.t 25) (.t 26), none⟩,
  ⟨(some 28), .mv (.t 27), none⟩,
  ⟨(some 29), .mv (.t 3), (some (28, true))⟩,
  ⟨(some 30), .mv (.t 5), (some (28, true))⟩,
  ⟨(some 31), .call 20 [(.t 29), (.t 30)], (some (28, true))⟩,
  ⟨(some 32), .pick (.t 28) (.t 31) (.k (.B false)), none⟩,
  ⟨(some 2), .mv (.t 32), none⟩] false
abbrev c8_10 : AC := .seq c8_9 .ret
abbrev c8_11 : AC := .seq c8_8 c8_10
abbrev c8_12 : AC := .seq c8_7 c8_11
abbrev c8_13 : AC := .seq c8_6 c8_12
abbrev c8_14 : AC := .seq c8_1 c8_13
abbrev c8 : AC := c8_14
theorem code8 : fnCode Try.prog 8 = some (c8, [2], 33) := by kernel_rfl
/- coinage/coinagelaw21.WearAgain -/
abbrev c9_1 : AC := .reg [⟨(some 4), .mv (.k (.B false)), none⟩] false
abbrev c9_2 : AC := .reg [⟨(some 25), .call 10 [], none⟩,
  ⟨(some 26), .not (.t 25), none⟩,
  ⟨(some 27), .mv (.t 26), none⟩,
  ⟨(some 28), .mv (.t 0), (some (27, false))⟩,
  ⟨(some 29), .call 13 [(.t 28)], (some (27, false))⟩,
  ⟨(some 30), .not (.t 29), (some (27, false))⟩,
  ⟨(some 31), .pick (.t 27) (.k (.B true)) (.t 30), none⟩] false
abbrev c9_3 : AC := .reg [⟨(some 32), .call 10 [], none⟩,
  ⟨(some 4), .mv (.t 32), none⟩] false
abbrev c9_4 : AC := .seq c9_3 .ret
abbrev c9_5 : AC := .cond (.t 31) c9_4 .skip
abbrev c9_6 : AC := .seq c9_2 c9_5
abbrev c9_7 : AC := .reg [⟨(some 34), .mv (.t 0), none⟩,
  ⟨(some 35), .call 29 [(.t 34)], none⟩,
  ⟨(some 33), .mv (.t 35), none⟩,
  ⟨(some 36), .ext (.t 33) 0, none⟩,
  ⟨(some 37), .ext (.t 33) 1, none⟩,
  ⟨(some 5), .mv (.t 36), none⟩,
  ⟨(some 6), .mv (.t 37), none⟩] false
abbrev c9_8 : AC := .reg [⟨(some 38), .mv (.t 6), none⟩,
  ⟨(some 39), .bin .neq (.t 38) (.k (.I 0)), none⟩] false
abbrev c9_9 : AC := .reg [⟨(some 40), .mv (.t 5), none⟩,
  ⟨(some 41), .len (.t 40), none⟩,
  ⟨(some 42), .bin .eql (.t 41) (.k (.I 0)), none⟩,
  ⟨(some 4), .mv (.t 42), none⟩] false
abbrev c9_10 : AC := .seq c9_9 .ret
abbrev c9_11 : AC := .cond (.t 39) c9_10 .skip
abbrev c9_12 : AC := .seq c9_8 c9_11
abbrev c9_13 : AC := .reg [⟨(some 44), .mv (.t 5), none⟩,
  ⟨(some 45), .call 29 [(.t 44)], none⟩,
  ⟨(some 43), .mv (.t 45), none⟩,
  ⟨(some 46), .ext (.t 43) 0, none⟩,
  ⟨(some 47), .ext (.t 43) 1, none⟩,
  ⟨(some 7), .mv (.t 46), none⟩,
  ⟨(some 8), .mv (.t 47), none⟩] false
abbrev c9_14 : AC := .reg [⟨(some 49), .mv (.t 0), none⟩,
  ⟨(some 50), .mv (.t 1), none⟩,
  ⟨(some 51), .conv .i64 (.t 50), none⟩,
  ⟨(some 52), .bin .rem (.t 51) (.k (.I 2)), none⟩,
  ⟨(some 53), .call 14 [(.t 49), (.t 52)], none⟩,
  ⟨(some 48), .mv (.t 53), none⟩,
  ⟨(some 54), .ext (.t 48) 0, none⟩,
  ⟨(some 55), .ext (.t 48) 1, none⟩,
  ⟨(some 9), .mv (.t 54), none⟩,
  ⟨(some 10), .mv (.t 55), none⟩] false
abbrev c9_15 : AC := .reg [⟨(some 57), .mv (.t 5), none⟩,
  ⟨(some 58), .mv (.t 1), none⟩,
  ⟨(some 59), .conv .i64 (.t 58), none⟩,
  ⟨(some 60), .bin .rem (.t 59) (.k (.I 2)), none⟩,
  ⟨(some 61), .call 14 [(.t 57), (.t 60)], none⟩,
  ⟨(some 56), .mv (.t 61), none⟩,
  ⟨(some 62), .ext (.t 56) 0, none⟩,
  ⟨(some 63), .ext (.t 56) 1, none⟩,
  ⟨(some 11), .mv (.t 62), none⟩,
  ⟨(some 12), .mv (.t 63), none⟩] false
abbrev c9_16 : AC := .reg [⟨(some 65), .mv (.t 0), none⟩,
  ⟨(some 66), .call 16 [(.t 65)], none⟩,
  ⟨(some 64), .mv (.t 66), none⟩,
  ⟨(some 67), .ext (.t 64) 0, none⟩,
  ⟨(some 68), .ext (.t 64) 1, none⟩,
  ⟨(some 13), .mv (.t 67), none⟩,
  ⟨(some 14), .mv (.t 68), none⟩] false
abbrev c9_17 : AC := .reg [⟨(some 70), .mv (.t 5), none⟩,
  ⟨(some 71), .call 16 [(.t 70)], none⟩,
  ⟨(some 69), .mv (.t 71), none⟩,
  ⟨(some 72), .ext (.t 69) 0, none⟩,
  ⟨(some 73), .ext (.t 69) 1, none⟩,
  ⟨(some 15), .mv (.t 72), none⟩,
  ⟨(some 16), .mv (.t 73), none⟩] false
abbrev c9_18 : AC := .reg [⟨(some 75), .mv (.t 0), none⟩,
  ⟨(some 76), .call 21 [(.t 75)], none⟩,
  ⟨(some 74), .mv (.t 76), none⟩,
  ⟨(some 77), .ext (.t 74) 0, none⟩,
  ⟨(some 78), .ext (.t 74) 1, none⟩,
  ⟨(some 17), .mv (.t 77), none⟩,
  ⟨(some 18), .mv (.t 78), none⟩] false
abbrev c9_19 : AC := .reg [⟨(some 80), .mv (.t 5), none⟩,
  ⟨(some 81), .call 21 [(.t 80)], none⟩,
  ⟨(some 79), .mv (.t 81), none⟩,
  ⟨(some 82), .ext (.t 79) 0, none⟩,
  ⟨(some 83), .ext (.t 79) 1, none⟩,
  ⟨(some 19), .mv (.t 82), none⟩,
  ⟨(some 20), .mv (.t 83), none⟩] false
abbrev c9_20 : AC := .reg [⟨(some 85), .mv (.t 0), none⟩,
  ⟨(some 86), .call 22 [(.t 85)], none⟩,
  ⟨(some 84), .mv (.t 86), none⟩,
  ⟨(some 87), .ext (.t 84) 0, none⟩,
  ⟨(some 88), .ext (.t 84) 1, none⟩,
  ⟨(some 21), .mv (.t 87), none⟩,
  ⟨(some 22), .mv (.t 88), none⟩] false
abbrev c9_21 : AC := .reg [⟨(some 90), .mv (.t 5), none⟩,
  ⟨(some 91), .call 22 [(.t 90)], none⟩,
  ⟨(some 89), .mv (.t 91), none⟩,
  ⟨(some 92), .ext (.t 89) 0, none⟩,
  ⟨(some 93), .ext (.t 89) 1, none⟩,
  ⟨(some 23), .mv (.t 92), none⟩,
  ⟨(some 24), .mv (.t 93), none⟩] false
abbrev c9_22 : AC := .reg [⟨(some 94), .mv (.t 8), none⟩,
  ⟨(some 95), .bin .eql (.t 94) (.k (.I 0)), none⟩,
  ⟨(some 96), .mv (.t 95), none⟩,
  ⟨(some 97), .mv (.t 5), (some (96, true))⟩,
  ⟨(some 98), .mv (.t 7), (some (96, true))⟩,
  ⟨(some 99), .call 20 [(.t 97), (.t 98)], (some (96, true))⟩,
  ⟨(some 100), .pick (.t 96) (.t 99) (.k (.B false)), none⟩,
  ⟨(some 101), .mv (.t 100), none⟩,
  ⟨(some 102), .mv (.t 10), (some (101, true))⟩,
  ⟨(some 103), .mv (.t 12), (some (101, true))⟩,
  ⟨(some 104), .bin .eql (.t 102) (.t 103), (some (101, true))⟩,
  ⟨(some 105), .pick (.t 101) (.t 104) (.k (.B false)), none⟩,
  ⟨(some 106), .mv (.t 105), none⟩,
  ⟨(some 107), .mv (.t 9), (some (106, true))⟩,
  ⟨(some 108), .mv (.t 11), (some (106, true))⟩,
  ⟨(some 109), .call 19 [(.t 107), (.t 108)], (some (106, true))⟩,
  ⟨(some 110), .pick (.t 106) (.t 109) (.k (.B false)), none⟩,
  ⟨(some 111), .mv (.t 110), none⟩,
  ⟨(some 112), .mv (.t 14), (some (111, true))⟩,
  ⟨(some 113), .mv (.t 16), (some (111, true))⟩,
  ⟨(some 114), .bin .eql (.t 112) (.t 113), (some (111, true))⟩,
  ⟨(some 115), .pick (.t 111) (.t 114) (.k (.B false)), none⟩,
  ⟨(some 116), .mv (.t 115), none⟩,
  ⟨(some 117), .mv (.t 13), (some (116, true))⟩,
  ⟨(some 118), .mv (.t 15), (some (116, true))⟩,
  ⟨(some 119), .call 19 [(.t 117), (.t 118)], (some (116, true))⟩,
  ⟨(some 120), .pick (.t 116) (.t 119) (.k (.B false)), none⟩,
  ⟨(some 121), .mv (.t 120), none⟩,
  ⟨(some 122), .mv (.t 18), (some (121, true))⟩,
  ⟨(some 123), .mv (.t 20), (some (121, true))⟩,
  ⟨(some 124), .bin .eql (.t 122) (.t 123), (some (121, true))⟩,
  ⟨(some 125), .pick (.t 121) (.t 124) (.k (.B false)), none⟩,
  ⟨(some 126), .mv (.t 125), none⟩,
  ⟨(some 127), .mv (.t 17), (some (126, true))⟩,
  ⟨(some 128), .mv (.t 19), (some (126, true))⟩,
  ⟨(some 129), .call 27 [(.t 127), (.t 128)], (some (126, true))⟩,
  ⟨(some 130), .pick (.t 126) (.t 129) (.k (.B false)), none⟩,
  ⟨(some 131), .mv (.t 130), none⟩,
  ⟨(some 132), .mv (.t 22), (some (131, true))⟩,
  ⟨(some 133), .mv (.t 24), (some (131, true))⟩,
  ⟨(some 134), .bin .eql (.t 132) (.t 133), (some (131, true))⟩,
  ⟨(some 135), .pick (.t 131) (.t 134) (.k (.B false)), none⟩,
  ⟨(some 136), .mv (.t 135), none⟩,
  ⟨(some 137), .mv (.t 21), (some (136, true))⟩,
  ⟨(some 138), .mv (.t 23), (some (136, true))⟩,
  ⟨(some 139), .call 27 [(.t 137), (.t 138)], (some (136, true))⟩,
  ⟨(some 140), .pick (.t 136) (.t 139) (.k (.B false)), none⟩,
  ⟨(some 141), .mv (.t 140), none⟩,
  ⟨(some 142), .mv (.t 5), (some (141, true))⟩,
  ⟨(some 143), .len (.t 142), (some (141, true))⟩,
  ⟨(some 144), .mv (.t 0), (some (141, true))⟩,
  ⟨(some 145), .len (.t 144), (some (141, true))⟩,
  ⟨(some 146), .bin .eql (.t 143) (.t 145), (some (141, true))⟩,
  ⟨(some 147), .pick (.t 141) (.t 146) (.k (.B false)), none⟩,
  ⟨(some 4), .mv (.t 147), none⟩] false
abbrev c9_23 : AC := .seq c9_22 .ret
abbrev c9_24 : AC := .seq c9_21 c9_23
abbrev c9_25 : AC := .seq c9_20 c9_24
abbrev c9_26 : AC := .seq c9_19 c9_25
abbrev c9_27 : AC := .seq c9_18 c9_26
abbrev c9_28 : AC := .seq c9_17 c9_27
abbrev c9_29 : AC := .seq c9_16 c9_28
abbrev c9_30 : AC := .seq c9_15 c9_29
abbrev c9_31 : AC := .seq c9_14 c9_30
abbrev c9_32 : AC := .seq c9_13 c9_31
abbrev c9_33 : AC := .seq c9_12 c9_32
abbrev c9_34 : AC := .seq c9_7 c9_33
abbrev c9_35 : AC := .seq c9_6 c9_34
abbrev c9_36 : AC := .seq c9_1 c9_35
abbrev c9 : AC := c9_36
theorem code9 : fnCode Try.prog 9 = some (c9, [4], 148) := by kernel_rfl
/- coinage/coinagelaw21.awake -/
abbrev c10_1 : AC := .reg [⟨(some 0), .mv (.k (.B false)), none⟩] false
abbrev c10_2 : AC := .reg [⟨(some 6), .call 31 [], none⟩,
  ⟨(some 7), .call 14 [(.t 6), (.k (.I 0))], none⟩,
  ⟨(some 5), .mv (.t 7), none⟩,
  ⟨(some 8), .ext (.t 5) 0, none⟩,
  ⟨(some 9), .ext (.t 5) 1, none⟩,
  ⟨(some 1), .mv (.t 8), none⟩,
  ⟨(some 2), .mv (.t 9), none⟩] false
abbrev c10_3 : AC := .reg [⟨(some 11), .call 31 [], none⟩,
  ⟨(some 12), .call 21 [(.t 11)], none⟩,
  ⟨(some 10), .mv (.t 12), none⟩,
  ⟨(some 13), .ext (.t 10) 0, none⟩,
  ⟨(some 14), .ext (.t 10) 1, none⟩,
  ⟨(some 3), .mv (.t 13), none⟩,
  ⟨(some 4), .mv (.t 14), none⟩] false
abbrev c10_4 : AC := .regD [(⟨(some 15), .mv (.t 2), none⟩, [2]),
  (⟨(some 16), .bin .eql (.t 15) (.k (.I 0)), none⟩, [15]),
  (⟨(some 17), .mv (.t 16), none⟩, [16]),
  (⟨(some 18), .mv (.t 1), (some (17, true))⟩, [1, 17]),
  (⟨(some 19), .build [(.I 0), (.I 0)] [(0, 1, (.k (.I 0))), (1, 1, (.k (.I 1)))], (some (17, true))⟩, [17]),
  (⟨(some 20), .build [(.I 0), (.I 0)] [(0, 1, (.k (.I 0))), (1, 1, (.k (.I 2)))], (some (17, true))⟩, [17]),
  (⟨(some 21), .bslice 35 2 [(.t 19), (.t 20)], (some (17, true))⟩, [19, 20, 17]),
  (⟨(some 22), .call 19 [(.t 18), (.t 21)], (some (17, true))⟩, [18, 21, 17]),
  (⟨(some 23), .pick (.t 17) (.t 22) (.k (.B false)), none⟩, [17, 22]),
  (⟨(some 24), .mv (.t 23), none⟩, [23]),
  (⟨(some 25), .mv (.t 4), (some (24, true))⟩, [4, 24]),
  (⟨(some 26), .bin .eql (.t 25) (.k (.I 0)), (some (24, true))⟩, [25, 24]),
  (⟨(some 27), .pick (.t 24) (.t 26) (.k (.B false)), none⟩, [24, 26]),
  (⟨(some 28), .mv (.t 27), none⟩, [27]),
  (⟨(some 29), .mv (.t 3), (some (28, true))⟩, [3, 28]),
  (⟨(some 30), .build [(.I 0), (.I 0)] [(0, 1, (.k (.I 0))), (1, 1, (.k (.I 1)))], (some (28, true))⟩, [28]),
  (⟨(some 31), .bslice 45 2 [(.t 30)], (some (28, true))⟩, [30, 28]),
  (⟨(some 32), .call 27 [(.t 29), (.t 31)], (some (28, true))⟩, [29, 31, 28]),
  (⟨(some 33), .pick (.t 28) (.t 32) (.k (.B false)), none⟩, [28, 32]),
  (⟨(some 34), .mv (.t 33), none⟩, [33]),
  (⟨(some 35), .call 31 [], (some (34, true))⟩, [34]),
  (⟨(some 36), .iad 7 (.t 35) (.k (.I 0)), (some (34, true))⟩, [35, 34]),
  (⟨(some 37), .ld (some 7) (.t 36), (some (34, true))⟩, [36, 34]),
  (⟨(some 38), .call 31 [], (some (34, true))⟩, [34]),
  (⟨(some 39), .iad 7 (.t 38) (.k (.I 2)), (some (34, true))⟩, [38, 34]),
  (⟨(some 40), .ld (some 7) (.t 39), (some (34, true))⟩, [39, 34]),
  (⟨(some 41), .call 11 [(.t 37), (.t 40)], (some (34, true))⟩, [37, 40, 34]),
  (⟨(some 42), .bin .eql (.t 41) (.k (.I 1)), (some (34, true))⟩, [41, 34]),
  (⟨(some 43), .pick (.t 34) (.t 42) (.k (.B false)), none⟩, [34, 42]),
  (⟨(some 0), .mv (.t 43), none⟩, [43])]
abbrev c10_5 : AC := .seq c10_4 .ret
abbrev c10_6 : AC := .seq c10_3 c10_5
abbrev c10_7 : AC := .seq c10_2 c10_6
abbrev c10_8 : AC := .seq c10_1 c10_7
abbrev c10 : AC := c10_8
theorem code10 : fnCode Try.prog 10 = some (c10, [0], 44) := by kernel_rfl
/- coinage/wear.Advance -/
abbrev c11_1 : AC := .reg [⟨(some 2), .box 23 (some 7) (.t 0), none⟩,
  ⟨(some 3), .box 23 (some 7) (.t 1), none⟩,
  ⟨(some 4), .mv (.k (.I 0)), none⟩] false
abbrev c11_2 : AC := .reg [⟨(some 14), .ld (some 7) (.t 2), none⟩,
  ⟨(some 15), .call 32 [(.t 14)], none⟩,
  ⟨(some 16), .not (.t 15), none⟩,
  ⟨(some 17), .mv (.t 16), none⟩,
  ⟨(some 18), .ld (some 7) (.t 3), (some (17, false))⟩,
  ⟨(some 19), .call 32 [(.t 18)], (some (17, false))⟩,
  ⟨(some 20), .not (.t 19), (some (17, false))⟩,
  ⟨(some 21), .pick (.t 17) (.k (.B true)) (.t 20), none⟩,
  ⟨(some 22), .mv (.t 21), none⟩,
  ⟨(some 23), .fad 1 (.t 2), (some (22, false))⟩,
  ⟨(some 24), .ld none (.t 23), (some (22, false))⟩,
  ⟨(some 25), .fad 1 (.t 3), (some (22, false))⟩,
  ⟨(some 26), .ld none (.t 25), (some (22, false))⟩,
  ⟨(some 27), .bin .neq (.t 24) (.t 26), (some (22, false))⟩,
  ⟨(some 28), .mv (.t 27), (some (22, false))⟩,
  ⟨(some 29), .fad 2 (.t 2), (some (28, true))⟩,
  ⟨(some 30), .ld none (.t 29), (some (28, true))⟩,
  ⟨(some 31), .fad 2 (.t 3), (some (28, true))⟩,
  ⟨(some 32), .ld none (.t 31), (some (28, true))⟩,
  ⟨(some 33), .bin .neq (.t 30) (.t 32), (some (28, true))⟩,
  ⟨(some 34), .pick (.t 28) (.t 33) (.k (.B false)), (some (22, false))⟩,
  ⟨(some 35), .pick (.t 22) (.k (.B true)) (.t 34), none⟩] false
abbrev c11_3 : AC := .reg [⟨(some 4), .mv (.k (.I (-1))), none⟩] false
abbrev c11_4 : AC := .seq c11_3 .ret
abbrev c11_5 : AC := .cond (.t 35) c11_4 .skip
abbrev c11_6 : AC := .seq c11_2 c11_5
abbrev c11_7 : AC := .reg [⟨(some 5), .mv (.k (.B false)), none⟩,
  ⟨(some 6), .mv (.k (.B false)), none⟩] false
abbrev c11_8 : AC := .reg [⟨(some 36), .build [(.I 0), (.I 0)] [(0, 1, (.k (.I 0))), (1, 1, (.k (.I 1)))], none⟩,
  ⟨(some 37), .mv (.k (.I 0)), none⟩] false
abbrev c11_9 : AC := .reg [⟨(some 38), .bin .lss (.t 37) (.k (.I 2)), none⟩] false
abbrev c11_10 : AC := .cond (.t 38) .skip (.exit 0)
abbrev c11_11 : AC := .reg [⟨(some 39), .idx 2 1 false (.t 36) (.t 37), none⟩,
  ⟨(some 8), .mv (.t 39), none⟩] false
abbrev c11_12 : AC := .reg [⟨(some 41), .ld (some 7) (.t 2), none⟩,
  ⟨(some 42), .mv (.t 8), none⟩,
  ⟨(some 43), .call 33 [(.t 41), (.t 42)], none⟩,
  ⟨(some 40), .mv (.t 43), none⟩,
  ⟨(some 44), .ext (.t 40) 0, none⟩,
  ⟨(some 45), .ext (.t 40) 1, none⟩,
  ⟨(some 9), .mv (.t 44), none⟩,
  ⟨(some 10), .mv (.t 45), none⟩] false
abbrev c11_13 : AC := .reg [⟨(some 47), .ld (some 7) (.t 3), none⟩,
  ⟨(some 48), .mv (.t 8), none⟩,
  ⟨(some 49), .call 33 [(.t 47), (.t 48)], none⟩,
  ⟨(some 46), .mv (.t 49), none⟩,
  ⟨(some 50), .ext (.t 46) 0, none⟩,
  ⟨(some 51), .ext (.t 46) 1, none⟩,
  ⟨(some 11), .mv (.t 50), none⟩,
  ⟨(some 12), .mv (.t 51), none⟩] false
abbrev c11_14 : AC := .reg [⟨(some 52), .mv (.t 10), none⟩,
  ⟨(some 53), .mv (.t 12), none⟩,
  ⟨(some 54), .call 34 [(.t 52), (.t 53)], none⟩,
  ⟨(some 13), .mv (.t 54), none⟩] false
abbrev c11_15 : AC := .reg [⟨(some 55), .mv (.t 5), none⟩,
  ⟨(some 56), .mv (.t 55), none⟩,
  ⟨(some 57), .mv (.t 9), (some (56, false))⟩,
  ⟨(some 58), .mv (.t 11), (some (56, false))⟩,
  ⟨(some 59), .bin .eql (.t 57) (.t 58), (some (56, false))⟩,
  ⟨(some 60), .mv (.t 59), (some (56, false))⟩,
  ⟨(some 61), .mv (.t 13), (some (60, true))⟩,
  ⟨(some 62), .bin .lss (.t 61) (.k (.I 0)), (some (60, true))⟩,
  ⟨(some 63), .pick (.t 60) (.t 62) (.k (.B false)), (some (56, false))⟩,
  ⟨(some 64), .pick (.t 56) (.k (.B true)) (.t 63), none⟩,
  ⟨(some 5), .mv (.t 64), none⟩] false
abbrev c11_16 : AC := .reg [⟨(some 65), .mv (.t 6), none⟩,
  ⟨(some 66), .mv (.t 65), none⟩,
  ⟨(some 67), .mv (.t 9), (some (66, false))⟩,
  ⟨(some 68), .mv (.t 11), (some (66, false))⟩,
  ⟨(some 69), .bin .eql (.t 67) (.t 68), (some (66, false))⟩,
  ⟨(some 70), .mv (.t 69), (some (66, false))⟩,
  ⟨(some 71), .mv (.t 13), (some (70, true))⟩,
  ⟨(some 72), .bin .gtr (.t 71) (.k (.I 0)), (some (70, true))⟩,
  ⟨(some 73), .pick (.t 70) (.t 72) (.k (.B false)), (some (66, false))⟩,
  ⟨(some 74), .pick (.t 66) (.k (.B true)) (.t 73), none⟩,
  ⟨(some 6), .mv (.t 74), none⟩] false
abbrev c11_17 : AC := .seq c11_15 c11_16
abbrev c11_18 : AC := .seq c11_14 c11_17
abbrev c11_19 : AC := .seq c11_13 c11_18
abbrev c11_20 : AC := .seq c11_12 c11_19
abbrev c11_21 : AC := .seq c11_11 c11_20
abbrev c11_22 : AC := .block 1 c11_21
abbrev c11_23 : AC := .reg [⟨(some 75), .bin .add (.t 37) (.k (.I 1)), none⟩,
  ⟨(some 37), .mv (.t 75), none⟩] false
abbrev c11_24 : AC := .seq c11_22 c11_23
abbrev c11_25 : AC := .seq c11_10 c11_24
abbrev c11_26 : AC := .seq c11_9 c11_25
abbrev c11_27 : AC := .loop c11_26
abbrev c11_28 : AC := .block 0 c11_27
abbrev c11_29 : AC := .seq c11_8 c11_28
abbrev c11_30 : AC := .reg [⟨(some 77), .mv (.t 5), none⟩,
  ⟨(some 78), .mv (.t 77), none⟩,
  ⟨(some 79), .mv (.t 6), (some (78, true))⟩,
  ⟨(some 80), .pick (.t 78) (.t 79) (.k (.B false)), none⟩,
  ⟨(some 76), .mv (.t 80), none⟩] false
abbrev c11_31 : AC := .reg [⟨(some 4), .mv (.k (.I 3)), none⟩] false
abbrev c11_32 : AC := .seq c11_31 .ret
abbrev c11_33 : AC := .reg [⟨(some 82), .mv (.t 5), none⟩,
  ⟨(some 81), .mv (.t 82), none⟩] false
abbrev c11_34 : AC := .reg [⟨(some 4), .mv (.k (.I 1)), none⟩] false
abbrev c11_35 : AC := .seq c11_34 .ret
abbrev c11_36 : AC := .reg [⟨(some 84), .mv (.t 6), none⟩,
  ⟨(some 83), .mv (.t 84), none⟩] false
abbrev c11_37 : AC := .reg [⟨(some 4), .mv (.k (.I 2)), none⟩] false
abbrev c11_38 : AC := .seq c11_37 .ret
abbrev c11_39 : AC := .cond (.t 83) c11_38 .skip
abbrev c11_40 : AC := .seq c11_36 c11_39
abbrev c11_41 : AC := .cond (.t 81) c11_35 c11_40
abbrev c11_42 : AC := .seq c11_33 c11_41
abbrev c11_43 : AC := .cond (.t 76) c11_32 c11_42
abbrev c11_44 : AC := .seq c11_30 c11_43
abbrev c11_45 : AC := .block 2 c11_44
abbrev c11_46 : AC := .reg [⟨(some 4), .mv (.k (.I 0)), none⟩] false
abbrev c11_47 : AC := .seq c11_46 .ret
abbrev c11_48 : AC := .seq c11_45 c11_47
abbrev c11_49 : AC := .seq c11_29 c11_48
abbrev c11_50 : AC := .seq c11_7 c11_49
abbrev c11_51 : AC := .seq c11_6 c11_50
abbrev c11_52 : AC := .seq c11_1 c11_51
abbrev c11 : AC := c11_52
theorem code11 : fnCode Try.prog 11 = some (c11, [4], 85) := by kernel_rfl
/- coinage/coinageref21.Advance -/
abbrev c12_1 : AC := .reg [⟨(some 2), .box 23 (some 7) (.t 0), none⟩,
  ⟨(some 3), .box 23 (some 7) (.t 1), none⟩,
  ⟨(some 4), .mv (.k (.I 0)), none⟩] false
abbrev c12_2 : AC := .reg [⟨(some 7), .ld (some 7) (.t 2), none⟩,
  ⟨(some 8), .call 35 [(.t 7)], none⟩,
  ⟨(some 9), .not (.t 8), none⟩,
  ⟨(some 10), .mv (.t 9), none⟩,
  ⟨(some 11), .ld (some 7) (.t 3), (some (10, false))⟩,
  ⟨(some 12), .call 35 [(.t 11)], (some (10, false))⟩,
  ⟨(some 13), .not (.t 12), (some (10, false))⟩,
  ⟨(some 14), .pick (.t 10) (.k (.B true)) (.t 13), none⟩,
  ⟨(some 15), .mv (.t 14), none⟩,
  ⟨(some 16), .fad 1 (.t 2), (some (15, false))⟩,
  ⟨(some 17), .ld none (.t 16), (some (15, false))⟩,
  ⟨(some 18), .fad 1 (.t 3), (some (15, false))⟩,
  ⟨(some 19), .ld none (.t 18), (some (15, false))⟩,
  ⟨(some 20), .bin .neq (.t 17) (.t 19), (some (15, false))⟩,
  ⟨(some 21), .mv (.t 20), (some (15, false))⟩,
  ⟨(some 22), .fad 2 (.t 2), (some (21, true))⟩,
  ⟨(some 23), .ld none (.t 22), (some (21, true))⟩,
  ⟨(some 24), .fad 2 (.t 3), (some (21, true))⟩,
  ⟨(some 25), .ld none (.t 24), (some (21, true))⟩,
  ⟨(some 26), .bin .neq (.t 23) (.t 25), (some (21, true))⟩,
  ⟨(some 27), .pick (.t 21) (.t 26) (.k (.B false)), (some (15, false))⟩,
  ⟨(some 28), .pick (.t 15) (.k (.B true)) (.t 27), none⟩] false
abbrev c12_3 : AC := .reg [⟨(some 4), .mv (.k (.I (-1))), none⟩] false
abbrev c12_4 : AC := .seq c12_3 .ret
abbrev c12_5 : AC := .cond (.t 28) c12_4 .skip
abbrev c12_6 : AC := .seq c12_2 c12_5
abbrev c12_7 : AC := .reg [⟨(some 29), .ld (some 7) (.t 2), none⟩,
  ⟨(some 30), .ld (some 7) (.t 3), none⟩,
  ⟨(some 31), .call 36 [(.t 29), (.t 30), (.k (.I 0))], none⟩,
  ⟨(some 32), .mv (.t 31), none⟩,
  ⟨(some 33), .ld (some 7) (.t 2), (some (32, false))⟩,
  ⟨(some 34), .ld (some 7) (.t 3), (some (32, false))⟩,
  ⟨(some 35), .call 36 [(.t 33), (.t 34), (.k (.I 1))], (some (32, false))⟩,
  ⟨(some 36), .pick (.t 32) (.k (.B true)) (.t 35), none⟩,
  ⟨(some 5), .mv (.t 36), none⟩] false
abbrev c12_8 : AC := .reg [⟨(some 37), .ld (some 7) (.t 3), none⟩,
  ⟨(some 38), .ld (some 7) (.t 2), none⟩,
  ⟨(some 39), .call 36 [(.t 37), (.t 38), (.k (.I 0))], none⟩,
  ⟨(some 40), .mv (.t 39), none⟩,
  ⟨(some 41), .ld (some 7) (.t 3), (some (40, false))⟩,
  ⟨(some 42), .ld (some 7) (.t 2), (some (40, false))⟩,
  ⟨(some 43), .call 36 [(.t 41), (.t 42), (.k (.I 1))], (some (40, false))⟩,
  ⟨(some 44), .pick (.t 40) (.k (.B true)) (.t 43), none⟩,
  ⟨(some 6), .mv (.t 44), none⟩] false
abbrev c12_9 : AC := .reg [⟨(some 46), .mv (.t 5), none⟩,
  ⟨(some 47), .mv (.t 46), none⟩,
  ⟨(some 48), .mv (.t 6), (some (47, true))⟩,
  ⟨(some 49), .pick (.t 47) (.t 48) (.k (.B false)), none⟩,
  ⟨(some 45), .mv (.t 49), none⟩] false
abbrev c12_10 : AC := .reg [⟨(some 4), .mv (.k (.I 3)), none⟩] false
abbrev c12_11 : AC := .seq c12_10 .ret
abbrev c12_12 : AC := .reg [⟨(some 51), .mv (.t 5), none⟩,
  ⟨(some 50), .mv (.t 51), none⟩] false
abbrev c12_13 : AC := .reg [⟨(some 4), .mv (.k (.I 1)), none⟩] false
abbrev c12_14 : AC := .seq c12_13 .ret
abbrev c12_15 : AC := .reg [⟨(some 53), .mv (.t 6), none⟩,
  ⟨(some 52), .mv (.t 53), none⟩] false
abbrev c12_16 : AC := .reg [⟨(some 4), .mv (.k (.I 2)), none⟩] false
abbrev c12_17 : AC := .seq c12_16 .ret
abbrev c12_18 : AC := .cond (.t 52) c12_17 .skip
abbrev c12_19 : AC := .seq c12_15 c12_18
abbrev c12_20 : AC := .cond (.t 50) c12_14 c12_19
abbrev c12_21 : AC := .seq c12_12 c12_20
abbrev c12_22 : AC := .cond (.t 45) c12_11 c12_21
abbrev c12_23 : AC := .seq c12_9 c12_22
abbrev c12_24 : AC := .block 0 c12_23
abbrev c12_25 : AC := .reg [⟨(some 4), .mv (.k (.I 0)), none⟩] false
abbrev c12_26 : AC := .seq c12_25 .ret
abbrev c12_27 : AC := .seq c12_24 c12_26
abbrev c12_28 : AC := .seq c12_8 c12_27
abbrev c12_29 : AC := .seq c12_7 c12_28
abbrev c12_30 : AC := .seq c12_6 c12_29
abbrev c12_31 : AC := .seq c12_1 c12_30
abbrev c12 : AC := c12_31
theorem code12 : fnCode Try.prog 12 = some (c12, [4], 54) := by kernel_rfl
/- coinage/coinagelaw21.few -/
abbrev c13_1 : AC := .reg [⟨(some 2), .mv (.k (.B false)), none⟩] false
abbrev c13_2 : AC := .reg [⟨(some 3), .mv (.t 0), none⟩,
  ⟨(some 4), .len (.t 3), none⟩,
  ⟨(some 5), .bin .leq (.t 4) (.k (.I 20)), none⟩,
  ⟨(some 6), .mv (.t 5), none⟩,
  ⟨(some 7), .mv (.t 0), (some (6, false))⟩,
  ⟨(some 8), .len (.t 7), (some (6, false))⟩,
  ⟨(some 9), .bin .gtr (.t 8) (.k (.I 64)), (some (6, false))⟩,
  ⟨(some 10), .mv (.t 9), (some (6, false))⟩,
  ⟨(some 11), .mv (.t 0), (some (10, true))⟩,
  ⟨(some 12), .len (.t 11), (some (10, true))⟩,
  ⟨(some 13), .bin .lss (.t 12) (.k (.I 100)), (some (10, true))⟩,
  ⟨(some 14), .pick (.t 10) (.t 13) (.k (.B false)), (some (6, false))⟩,
  ⟨(some 15), .pick (.t 6) (.k (.B true)) (.t 14), none⟩,
  ⟨(some 2), .mv (.t 15), none⟩] false
abbrev c13_3 : AC := .seq c13_2 .ret
abbrev c13_4 : AC := .seq c13_1 c13_3
abbrev c13 : AC := c13_4
theorem code13 : fnCode Try.prog 13 = some (c13, [2], 16) := by kernel_rfl
/- coinage/wear.Before -/
abbrev c14_1 : AC := .reg [⟨(some 3), .box 3 none (.t 1), none⟩,
  ⟨(some 4), .mv (.k (.c .nil)), none⟩,
  ⟨(some 5), .mv (.k (.I 0)), none⟩] false
abbrev c14_2 : AC := .reg [⟨(some 7), .mv (.t 0), none⟩,
  ⟨(some 8), .call 37 [(.t 7)], none⟩,
  ⟨(some 6), .mv (.t 8), none⟩] false
abbrev c14_3 : AC := .reg [⟨(some 9), .mv (.t 6), none⟩,
  ⟨(some 10), .bin .neq (.t 9) (.k (.I 0)), none⟩] false
abbrev c14_4 : AC := .reg [⟨(some 11), .mv (.t 6), none⟩,
  ⟨(some 4), .mv (.k (.c .nil)), none⟩,
  ⟨(some 5), .mv (.t 11), none⟩] false
abbrev c14_5 : AC := .seq c14_4 .ret
abbrev c14_6 : AC := .cond (.t 10) c14_5 .skip
abbrev c14_7 : AC := .seq c14_3 c14_6
abbrev c14_8 : AC := .seq c14_2 c14_7
abbrev c14_9 : AC := .reg [⟨(some 12), .ld none (.t 3), none⟩,
  ⟨(some 13), .bin .neq (.t 12) (.k (.I 0)), none⟩,
  ⟨(some 14), .mv (.t 13), none⟩,
  ⟨(some 15), .ld none (.t 3), (some (14, true))⟩,
  ⟨(some 16), .bin .neq (.t 15) (.k (.I 1)), (some (14, true))⟩,
  ⟨(some 17), .pick (.t 14) (.t 16) (.k (.B false)), none⟩] false
abbrev c14_10 : AC := .reg [⟨(some 4), .mv (.k (.c .nil)), none⟩,
  ⟨(some 5), .mv (.k (.I 2)), none⟩] false
abbrev c14_11 : AC := .seq c14_10 .ret
abbrev c14_12 : AC := .cond (.t 17) c14_11 .skip
abbrev c14_13 : AC := .seq c14_9 c14_12
abbrev c14_14 : AC := .reg [⟨(some 18), .mv (.t 0), none⟩,
  ⟨(some 19), .mkfn 39 [(.t 3)], none⟩,
  ⟨(some 20), .call 38 [(.t 18), (.t 19)], none⟩,
  ⟨(some 4), .mv (.t 20), none⟩,
  ⟨(some 5), .mv (.k (.I 0)), none⟩] false
abbrev c14_15 : AC := .seq c14_14 .ret
abbrev c14_16 : AC := .seq c14_13 c14_15
abbrev c14_17 : AC := .seq c14_8 c14_16
abbrev c14_18 : AC := .seq c14_1 c14_17
abbrev c14 : AC := c14_18
theorem code14 : fnCode Try.prog 14 = some (c14, [4, 5], 21) := by kernel_rfl
/- coinage/coinagebase.Check -/
abbrev c15_1 : AC := .reg [⟨(some 2), .mv (.k (.I 0)), none⟩] false
abbrev c15_2 : AC := .reg [⟨(some 6), .mv (.t 0), none⟩,
  ⟨(some 7), .len (.t 6), none⟩,
  ⟨(some 8), .bin .gtr (.t 7) (.k (.I 64)), none⟩] false
abbrev c15_3 : AC := .reg [⟨(some 2), .mv (.k (.I 6)), none⟩] false
abbrev c15_4 : AC := .seq c15_3 .ret
abbrev c15_5 : AC := .cond (.t 8) c15_4 .skip
abbrev c15_6 : AC := .seq c15_2 c15_5
abbrev c15_7 : AC := .reg [⟨(some 3), .mv (.k (.I 0)), none⟩] false
abbrev c15_8 : AC := .reg [⟨(some 9), .mv (.t 3), none⟩,
  ⟨(some 10), .mv (.t 0), none⟩,
  ⟨(some 11), .len (.t 10), none⟩,
  ⟨(some 12), .bin .lss (.t 9) (.t 11), none⟩] false
abbrev c15_9 : AC := .cond (.t 12) .skip (.exit 0)
abbrev c15_10 : AC := .seq c15_8 c15_9
abbrev c15_11 : AC := .reg [⟨(some 15), .mv (.t 0), none⟩,
  ⟨(some 16), .mv (.t 3), none⟩,
  ⟨(some 17), .iad 7 (.t 15) (.t 16), none⟩,
  ⟨(some 18), .ld (some 7) (.t 17), none⟩,
  ⟨(some 19), .call 35 [(.t 18)], none⟩,
  ⟨(some 20), .not (.t 19), none⟩] false
abbrev c15_12 : AC := .reg [⟨(some 2), .mv (.k (.I 1)), none⟩] false
abbrev c15_13 : AC := .seq c15_12 .ret
abbrev c15_14 : AC := .cond (.t 20) c15_13 .skip
abbrev c15_15 : AC := .seq c15_11 c15_14
abbrev c15_16 : AC := .block 1 c15_15
abbrev c15_17 : AC := .reg [⟨(some 13), .mv (.t 3), none⟩,
  ⟨(some 14), .bin .add (.t 13) (.k (.I 1)), none⟩,
  ⟨(some 3), .mv (.t 14), none⟩] false
abbrev c15_18 : AC := .seq c15_16 c15_17
abbrev c15_19 : AC := .seq c15_10 c15_18
abbrev c15_20 : AC := .loop c15_19
abbrev c15_21 : AC := .block 0 c15_20
abbrev c15_22 : AC := .seq c15_7 c15_21
abbrev c15_23 : AC := .reg [⟨(some 4), .mv (.k (.I 0)), none⟩] false
abbrev c15_24 : AC := .reg [⟨(some 21), .mv (.t 4), none⟩,
  ⟨(some 22), .mv (.t 0), none⟩,
  ⟨(some 23), .len (.t 22), none⟩,
  ⟨(some 24), .bin .lss (.t 21) (.t 23), none⟩] false
abbrev c15_25 : AC := .cond (.t 24) .skip (.exit 2)
abbrev c15_26 : AC := .seq c15_24 c15_25
abbrev c15_27 : AC := .reg [⟨(some 5), .mv (.k (.I 0)), none⟩] false
abbrev c15_28 : AC := .reg [⟨(some 27), .mv (.t 5), none⟩,
  ⟨(some 28), .mv (.t 4), none⟩,
  ⟨(some 29), .bin .lss (.t 27) (.t 28), none⟩] false
abbrev c15_29 : AC := .cond (.t 29) .skip (.exit 4)
abbrev c15_30 : AC := .seq c15_28 c15_29
abbrev c15_31 : AC := .regD [(⟨(some 32), .mv (.t 0), none⟩, [0]),
  (⟨(some 33), .mv (.t 4), none⟩, [4]),
  (⟨(some 34), .iad 7 (.t 32) (.t 33), none⟩, [32, 33]),
  (⟨(some 35), .fad 0 (.t 34), none⟩, [34]),
  (⟨(some 36), .ld none (.t 35), none⟩, [35]),
  (⟨(some 37), .mv (.t 0), none⟩, [0]),
  (⟨(some 38), .mv (.t 5), none⟩, [5]),
  (⟨(some 39), .iad 7 (.t 37) (.t 38), none⟩, [37, 38]),
  (⟨(some 40), .fad 0 (.t 39), none⟩, [39]),
  (⟨(some 41), .ld none (.t 40), none⟩, [40]),
  (⟨(some 42), .bin .eql (.t 36) (.t 41), none⟩, [36, 41])]
abbrev c15_32 : AC := .reg [⟨(some 2), .mv (.k (.I 8)), none⟩] false
abbrev c15_33 : AC := .seq c15_32 .ret
abbrev c15_34 : AC := .cond (.t 42) c15_33 .skip
abbrev c15_35 : AC := .seq c15_31 c15_34
abbrev c15_36 : AC := .block 5 c15_35
abbrev c15_37 : AC := .reg [⟨(some 30), .mv (.t 5), none⟩,
  ⟨(some 31), .bin .add (.t 30) (.k (.I 1)), none⟩,
  ⟨(some 5), .mv (.t 31), none⟩] false
abbrev c15_38 : AC := .seq c15_36 c15_37
abbrev c15_39 : AC := .seq c15_30 c15_38
abbrev c15_40 : AC := .loop c15_39
abbrev c15_41 : AC := .block 4 c15_40
abbrev c15_42 : AC := .seq c15_27 c15_41
abbrev c15_43 : AC := .block 3 c15_42
abbrev c15_44 : AC := .reg [⟨(some 25), .mv (.t 4), none⟩,
  ⟨(some 26), .bin .add (.t 25) (.k (.I 1)), none⟩,
  ⟨(some 4), .mv (.t 26), none⟩] false
abbrev c15_45 : AC := .seq c15_43 c15_44
abbrev c15_46 : AC := .seq c15_26 c15_45
abbrev c15_47 : AC := .loop c15_46
abbrev c15_48 : AC := .block 2 c15_47
abbrev c15_49 : AC := .seq c15_23 c15_48
abbrev c15_50 : AC := .reg [⟨(some 2), .mv (.k (.I 0)), none⟩] false
abbrev c15_51 : AC := .seq c15_50 .ret
abbrev c15_52 : AC := .seq c15_49 c15_51
abbrev c15_53 : AC := .seq c15_22 c15_52
abbrev c15_54 : AC := .seq c15_6 c15_53
abbrev c15_55 : AC := .seq c15_1 c15_54
abbrev c15 : AC := c15_55
theorem code15 : fnCode Try.prog 15 = some (c15, [2], 43) := by kernel_rfl
/- coinage/wear.Arcs -/
abbrev c16_1 : AC := .reg [⟨(some 2), .mv (.k (.c .nil)), none⟩,
  ⟨(some 3), .mv (.k (.I 0)), none⟩] false
abbrev c16_2 : AC := .reg [⟨(some 5), .mv (.t 0), none⟩,
  ⟨(some 6), .call 37 [(.t 5)], none⟩,
  ⟨(some 4), .mv (.t 6), none⟩] false
abbrev c16_3 : AC := .reg [⟨(some 7), .mv (.t 4), none⟩,
  ⟨(some 8), .bin .neq (.t 7) (.k (.I 0)), none⟩] false
abbrev c16_4 : AC := .reg [⟨(some 9), .mv (.t 4), none⟩,
  ⟨(some 2), .mv (.k (.c .nil)), none⟩,
  ⟨(some 3), .mv (.t 9), none⟩] false
abbrev c16_5 : AC := .seq c16_4 .ret
abbrev c16_6 : AC := .cond (.t 8) c16_5 .skip
abbrev c16_7 : AC := .seq c16_3 c16_6
abbrev c16_8 : AC := .seq c16_2 c16_7
abbrev c16_9 : AC := .reg [⟨(some 10), .mv (.t 0), none⟩,
  ⟨(some 11), .call 38 [(.t 10), (.k (.fn 41 []))], none⟩,
  ⟨(some 2), .mv (.t 11), none⟩,
  ⟨(some 3), .mv (.k (.I 0)), none⟩] false
abbrev c16_10 : AC := .seq c16_9 .ret
abbrev c16_11 : AC := .seq c16_8 c16_10
abbrev c16_12 : AC := .seq c16_1 c16_11
abbrev c16 : AC := c16_12
theorem code16 : fnCode Try.prog 16 = some (c16, [2, 3], 12) := by kernel_rfl
/- coinage/coinageref21.Before -/
abbrev c17_1 : AC := .reg [⟨(some 4), .mv (.k (.c .nil)), none⟩,
  ⟨(some 5), .mv (.k (.I 0)), none⟩] false
abbrev c17_2 : AC := .reg [⟨(some 10), .mv (.t 0), none⟩,
  ⟨(some 11), .call 15 [(.t 10)], none⟩,
  ⟨(some 6), .mv (.t 11), none⟩] false
abbrev c17_3 : AC := .reg [⟨(some 12), .mv (.t 6), none⟩,
  ⟨(some 13), .bin .neq (.t 12) (.k (.I 0)), none⟩] false
abbrev c17_4 : AC := .reg [⟨(some 14), .mv (.t 6), none⟩,
  ⟨(some 4), .mv (.k (.c .nil)), none⟩,
  ⟨(some 5), .mv (.t 14), none⟩] false
abbrev c17_5 : AC := .seq c17_4 .ret
abbrev c17_6 : AC := .cond (.t 13) c17_5 .skip
abbrev c17_7 : AC := .seq c17_3 c17_6
abbrev c17_8 : AC := .seq c17_2 c17_7
abbrev c17_9 : AC := .reg [⟨(some 15), .mv (.t 1), none⟩,
  ⟨(some 16), .bin .neq (.t 15) (.k (.I 0)), none⟩,
  ⟨(some 17), .mv (.t 16), none⟩,
  ⟨(some 18), .mv (.t 1), (some (17, true))⟩,
  ⟨(some 19), .bin .neq (.t 18) (.k (.I 1)), (some (17, true))⟩,
  ⟨(some 20), .pick (.t 17) (.t 19) (.k (.B false)), none⟩] false
abbrev c17_10 : AC := .reg [⟨(some 4), .mv (.k (.c .nil)), none⟩,
  ⟨(some 5), .mv (.k (.I 2)), none⟩] false
abbrev c17_11 : AC := .seq c17_10 .ret
abbrev c17_12 : AC := .cond (.t 20) c17_11 .skip
abbrev c17_13 : AC := .seq c17_9 c17_12
abbrev c17_14 : AC := .reg [⟨(some 7), .mv (.k (.c .nil)), none⟩] false
abbrev c17_15 : AC := .reg [⟨(some 8), .mv (.k (.I 0)), none⟩] false
abbrev c17_16 : AC := .reg [⟨(some 21), .mv (.t 8), none⟩,
  ⟨(some 22), .mv (.t 0), none⟩,
  ⟨(some 23), .len (.t 22), none⟩,
  ⟨(some 24), .bin .lss (.t 21) (.t 23), none⟩] false
abbrev c17_17 : AC := .cond (.t 24) .skip (.exit 0)
abbrev c17_18 : AC := .seq c17_16 c17_17
abbrev c17_19 : AC := .reg [⟨(some 9), .mv (.k (.I 0)), none⟩] false
abbrev c17_20 : AC := .reg [⟨(some 27), .mv (.t 9), none⟩,
  ⟨(some 28), .mv (.t 0), none⟩,
  ⟨(some 29), .len (.t 28), none⟩,
  ⟨(some 30), .bin .lss (.t 27) (.t 29), none⟩] false
abbrev c17_21 : AC := .cond (.t 30) .skip (.exit 2)
abbrev c17_22 : AC := .seq c17_20 c17_21
abbrev c17_23 : AC := .regD [(⟨(some 33), .mv (.t 0), none⟩, [0]),
  (⟨(some 34), .mv (.t 8), none⟩, [8]),
  (⟨(some 35), .iad 7 (.t 33) (.t 34), none⟩, [33, 34]),
  (⟨(some 36), .ld (some 7) (.t 35), none⟩, [35]),
  (⟨(some 37), .mv (.t 0), none⟩, [0]),
  (⟨(some 38), .mv (.t 9), none⟩, [9]),
  (⟨(some 39), .iad 7 (.t 37) (.t 38), none⟩, [37, 38]),
  (⟨(some 40), .ld (some 7) (.t 39), none⟩, [39]),
  (⟨(some 41), .mv (.t 1), none⟩, [1]),
  (⟨(some 42), .call 36 [(.t 36), (.t 40), (.t 41)], none⟩, [36, 40, 41])]
abbrev c17_24 : AC := .reg [⟨(some 43), .mv (.t 7), none⟩,
  ⟨(some 44), .mv (.t 8), none⟩,
  ⟨(some 45), .mv (.t 9), none⟩,
  ⟨(some 46), .build [(.I 0), (.I 0)] [(0, 1, (.t 44)), (1, 1, (.t 45))], none⟩,
  ⟨(some 47), .bslice 35 2 [(.t 46)], none⟩,
  ⟨(some 48), .app 35 2 16 (.t 43) (.t 47), none⟩,
  ⟨(some 7), .mv (.t 48), none⟩] false
abbrev c17_25 : AC := .cond (.t 42) c17_24 .skip
abbrev c17_26 : AC := .seq c17_23 c17_25
abbrev c17_27 : AC := .block 3 c17_26
abbrev c17_28 : AC := .reg [⟨(some 31), .mv (.t 9), none⟩,
  ⟨(some 32), .bin .add (.t 31) (.k (.I 1)), none⟩,
  ⟨(some 9), .mv (.t 32), none⟩] false
abbrev c17_29 : AC := .seq c17_27 c17_28
abbrev c17_30 : AC := .seq c17_22 c17_29
abbrev c17_31 : AC := .loop c17_30
abbrev c17_32 : AC := .block 2 c17_31
abbrev c17_33 : AC := .seq c17_19 c17_32
abbrev c17_34 : AC := .block 1 c17_33
abbrev c17_35 : AC := .reg [⟨(some 25), .mv (.t 8), none⟩,
  ⟨(some 26), .bin .add (.t 25) (.k (.I 1)), none⟩,
  ⟨(some 8), .mv (.t 26), none⟩] false
abbrev c17_36 : AC := .seq c17_34 c17_35
abbrev c17_37 : AC := .seq c17_18 c17_36
abbrev c17_38 : AC := .loop c17_37
abbrev c17_39 : AC := .block 0 c17_38
abbrev c17_40 : AC := .seq c17_15 c17_39
abbrev c17_41 : AC := .reg [⟨(some 49), .mv (.t 7), none⟩,
  ⟨(some 4), .mv (.t 49), none⟩,
  ⟨(some 5), .mv (.k (.I 0)), none⟩] false
abbrev c17_42 : AC := .seq c17_41 .ret
abbrev c17_43 : AC := .seq c17_40 c17_42
abbrev c17_44 : AC := .seq c17_14 c17_43
abbrev c17_45 : AC := .seq c17_13 c17_44
abbrev c17_46 : AC := .seq c17_8 c17_45
abbrev c17_47 : AC := .seq c17_1 c17_46
abbrev c17 : AC := c17_47
theorem code17 : fnCode Try.prog 17 = some (c17, [4, 5], 50) := by kernel_rfl
/- coinage/coinageref21.Arcs -/
abbrev c18_1 : AC := .reg [⟨(some 2), .mv (.k (.c .nil)), none⟩,
  ⟨(some 3), .mv (.k (.I 0)), none⟩] false
abbrev c18_2 : AC := .reg [⟨(some 8), .mv (.t 0), none⟩,
  ⟨(some 9), .call 15 [(.t 8)], none⟩,
  ⟨(some 4), .mv (.t 9), none⟩] false
abbrev c18_3 : AC := .reg [⟨(some 10), .mv (.t 4), none⟩,
  ⟨(some 11), .bin .neq (.t 10) (.k (.I 0)), none⟩] false
abbrev c18_4 : AC := .reg [⟨(some 12), .mv (.t 4), none⟩,
  ⟨(some 2), .mv (.k (.c .nil)), none⟩,
  ⟨(some 3), .mv (.t 12), none⟩] false
abbrev c18_5 : AC := .seq c18_4 .ret
abbrev c18_6 : AC := .cond (.t 11) c18_5 .skip
abbrev c18_7 : AC := .seq c18_3 c18_6
abbrev c18_8 : AC := .seq c18_2 c18_7
abbrev c18_9 : AC := .reg [⟨(some 5), .mv (.k (.c .nil)), none⟩] false
abbrev c18_10 : AC := .reg [⟨(some 6), .mv (.k (.I 0)), none⟩] false
abbrev c18_11 : AC := .reg [⟨(some 13), .mv (.t 6), none⟩,
  ⟨(some 14), .mv (.t 0), none⟩,
  ⟨(some 15), .len (.t 14), none⟩,
  ⟨(some 16), .bin .lss (.t 13) (.t 15), none⟩] false
abbrev c18_12 : AC := .cond (.t 16) .skip (.exit 0)
abbrev c18_13 : AC := .seq c18_11 c18_12
abbrev c18_14 : AC := .reg [⟨(some 7), .mv (.k (.I 0)), none⟩] false
abbrev c18_15 : AC := .reg [⟨(some 19), .mv (.t 7), none⟩,
  ⟨(some 20), .mv (.t 0), none⟩,
  ⟨(some 21), .len (.t 20), none⟩,
  ⟨(some 22), .bin .lss (.t 19) (.t 21), none⟩] false
abbrev c18_16 : AC := .cond (.t 22) .skip (.exit 2)
abbrev c18_17 : AC := .seq c18_15 c18_16
abbrev c18_18 : AC := .regD [(⟨(some 25), .mv (.t 0), none⟩, [0]),
  (⟨(some 26), .mv (.t 6), none⟩, [6]),
  (⟨(some 27), .iad 7 (.t 25) (.t 26), none⟩, [25, 26]),
  (⟨(some 28), .ld (some 7) (.t 27), none⟩, [27]),
  (⟨(some 29), .mv (.t 0), none⟩, [0]),
  (⟨(some 30), .mv (.t 7), none⟩, [7]),
  (⟨(some 31), .iad 7 (.t 29) (.t 30), none⟩, [29, 30]),
  (⟨(some 32), .ld (some 7) (.t 31), none⟩, [31]),
  (⟨(some 33), .call 36 [(.t 28), (.t 32), (.k (.I 0))], none⟩, [28, 32]),
  (⟨(some 34), .mv (.t 33), none⟩, [33]),
  (⟨(some 35), .mv (.t 0), (some (34, false))⟩, [0, 34]),
  (⟨(some 36), .mv (.t 6), (some (34, false))⟩, [6, 34]),
  (⟨(some 37), .iad 7 (.t 35) (.t 36), (some (34, false))⟩, [35, 36, 34]),
  (⟨(some 38), .ld (some 7) (.t 37), (some (34, false))⟩, [37, 34]),
  (⟨(some 39), .mv (.t 0), (some (34, false))⟩, [0, 34]),
  (⟨(some 40), .mv (.t 7), (some (34, false))⟩, [7, 34]),
  (⟨(some 41), .iad 7 (.t 39) (.t 40), (some (34, false))⟩, [39, 40, 34]),
  (⟨(some 42), .ld (some 7) (.t 41), (some (34, false))⟩, [41, 34]),
  (⟨(some 43), .call 36 [(.t 38), (.t 42), (.k (.I 1))], (some (34, false))⟩, [38, 42, 34]),
  (⟨(some 44), .pick (.t 34) (.k (.B true)) (.t 43), none⟩, [34, 43])]
abbrev c18_19 : AC := .reg [⟨(some 45), .mv (.t 5), none⟩,
  ⟨(some 46), .mv (.t 6), none⟩,
  ⟨(some 47), .mv (.t 7), none⟩,
  ⟨(some 48), .build [(.I 0), (.I 0)] [(0, 1, (.t 46)), (1, 1, (.t 47))], none⟩,
  ⟨(some 49), .bslice 35 2 [(.t 48)], none⟩,
  ⟨(some 50), .app 35 2 16 (.t 45) (.t 49), none⟩,
  ⟨(some 5), .mv (.t 50), none⟩] false
abbrev c18_20 : AC := .cond (.t 44) c18_19 .skip
abbrev c18_21 : AC := .seq c18_18 c18_20
abbrev c18_22 : AC := .block 3 c18_21
abbrev c18_23 : AC := .reg [⟨(some 23), .mv (.t 7), none⟩,
  ⟨(some 24), .bin .add (.t 23) (.k (.I 1)), none⟩,
  ⟨(some 7), .mv (.t 24), none⟩] false
abbrev c18_24 : AC := .seq c18_22 c18_23
abbrev c18_25 : AC := .seq c18_17 c18_24
abbrev c18_26 : AC := .loop c18_25
abbrev c18_27 : AC := .block 2 c18_26
abbrev c18_28 : AC := .seq c18_14 c18_27
abbrev c18_29 : AC := .block 1 c18_28
abbrev c18_30 : AC := .reg [⟨(some 17), .mv (.t 6), none⟩,
  ⟨(some 18), .bin .add (.t 17) (.k (.I 1)), none⟩,
  ⟨(some 6), .mv (.t 18), none⟩] false
abbrev c18_31 : AC := .seq c18_29 c18_30
abbrev c18_32 : AC := .seq c18_13 c18_31
abbrev c18_33 : AC := .loop c18_32
abbrev c18_34 : AC := .block 0 c18_33
abbrev c18_35 : AC := .seq c18_10 c18_34
abbrev c18_36 : AC := .reg [⟨(some 51), .mv (.t 5), none⟩,
  ⟨(some 2), .mv (.t 51), none⟩,
  ⟨(some 3), .mv (.k (.I 0)), none⟩] false
abbrev c18_37 : AC := .seq c18_36 .ret
abbrev c18_38 : AC := .seq c18_35 c18_37
abbrev c18_39 : AC := .seq c18_9 c18_38
abbrev c18_40 : AC := .seq c18_8 c18_39
abbrev c18_41 : AC := .seq c18_1 c18_40
abbrev c18 : AC := c18_41
theorem code18 : fnCode Try.prog 18 = some (c18, [2, 3], 52) := by kernel_rfl
/- coinage/coinagebase.Arcs -/
abbrev c19_1 : AC := .reg [⟨(some 4), .mv (.k (.B false)), none⟩] false
abbrev c19_2 : AC := .reg [⟨(some 6), .mv (.t 0), none⟩,
  ⟨(some 7), .len (.t 6), none⟩,
  ⟨(some 8), .mv (.t 1), none⟩,
  ⟨(some 9), .len (.t 8), none⟩,
  ⟨(some 10), .bin .neq (.t 7) (.t 9), none⟩] false
abbrev c19_3 : AC := .reg [⟨(some 4), .mv (.k (.B false)), none⟩] false
abbrev c19_4 : AC := .seq c19_3 .ret
abbrev c19_5 : AC := .cond (.t 10) c19_4 .skip
abbrev c19_6 : AC := .seq c19_2 c19_5
abbrev c19_7 : AC := .reg [⟨(some 5), .mv (.k (.I 0)), none⟩] false
abbrev c19_8 : AC := .reg [⟨(some 11), .mv (.t 5), none⟩,
  ⟨(some 12), .mv (.t 0), none⟩,
  ⟨(some 13), .len (.t 12), none⟩,
  ⟨(some 14), .bin .lss (.t 11) (.t 13), none⟩] false
abbrev c19_9 : AC := .cond (.t 14) .skip (.exit 0)
abbrev c19_10 : AC := .seq c19_8 c19_9
abbrev c19_11 : AC := .regD [(⟨(some 17), .mv (.t 0), none⟩, [0]),
  (⟨(some 18), .mv (.t 5), none⟩, [5]),
  (⟨(some 19), .iad 2 (.t 17) (.t 18), none⟩, [17, 18]),
  (⟨(some 20), .ld (some 2) (.t 19), none⟩, [19]),
  (⟨(some 21), .mv (.t 1), none⟩, [1]),
  (⟨(some 22), .mv (.t 5), none⟩, [5]),
  (⟨(some 23), .iad 2 (.t 21) (.t 22), none⟩, [21, 22]),
  (⟨(some 24), .ld (some 2) (.t 23), none⟩, [23]),
  (⟨(some 25), .eqs true [false, false] (.t 20) (.t 24), none⟩, [20, 24])]
abbrev c19_12 : AC := .reg [⟨(some 4), .mv (.k (.B false)), none⟩] false
abbrev c19_13 : AC := .seq c19_12 .ret
abbrev c19_14 : AC := .cond (.t 25) c19_13 .skip
abbrev c19_15 : AC := .seq c19_11 c19_14
abbrev c19_16 : AC := .block 1 c19_15
abbrev c19_17 : AC := .reg [⟨(some 15), .mv (.t 5), none⟩,
  ⟨(some 16), .bin .add (.t 15) (.k (.I 1)), none⟩,
  ⟨(some 5), .mv (.t 16), none⟩] false
abbrev c19_18 : AC := .seq c19_16 c19_17
abbrev c19_19 : AC := .seq c19_10 c19_18
abbrev c19_20 : AC := .loop c19_19
abbrev c19_21 : AC := .block 0 c19_20
abbrev c19_22 : AC := .seq c19_7 c19_21
abbrev c19_23 : AC := .reg [⟨(some 4), .mv (.k (.B true)), none⟩] false
abbrev c19_24 : AC := .seq c19_23 .ret
abbrev c19_25 : AC := .seq c19_22 c19_24
abbrev c19_26 : AC := .seq c19_6 c19_25
abbrev c19_27 : AC := .seq c19_1 c19_26
abbrev c19 : AC := c19_27
theorem code19 : fnCode Try.prog 19 = some (c19, [4], 26) := by kernel_rfl
/- coinage/coinagebase.Specimens -/
abbrev c20_1 : AC := .reg [⟨(some 4), .mv (.k (.B false)), none⟩] false
abbrev c20_2 : AC := .reg [⟨(some 6), .mv (.t 0), none⟩,
  ⟨(some 7), .len (.t 6), none⟩,
  ⟨(some 8), .mv (.t 1), none⟩,
  ⟨(some 9), .len (.t 8), none⟩,
  ⟨(some 10), .bin .neq (.t 7) (.t 9), none⟩] false
abbrev c20_3 : AC := .reg [⟨(some 4), .mv (.k (.B false)), none⟩] false
abbrev c20_4 : AC := .seq c20_3 .ret
abbrev c20_5 : AC := .cond (.t 10) c20_4 .skip
abbrev c20_6 : AC := .seq c20_2 c20_5
abbrev c20_7 : AC := .reg [⟨(some 5), .mv (.k (.I 0)), none⟩] false
abbrev c20_8 : AC := .reg [⟨(some 11), .mv (.t 5), none⟩,
  ⟨(some 12), .mv (.t 0), none⟩,
  ⟨(some 13), .len (.t 12), none⟩,
  ⟨(some 14), .bin .lss (.t 11) (.t 13), none⟩] false
abbrev c20_9 : AC := .cond (.t 14) .skip (.exit 0)
abbrev c20_10 : AC := .seq c20_8 c20_9
abbrev c20_11 : AC := .regD [(⟨(some 17), .mv (.t 0), none⟩, [0]),
  (⟨(some 18), .mv (.t 5), none⟩, [5]),
  (⟨(some 19), .iad 7 (.t 17) (.t 18), none⟩, [17, 18]),
  (⟨(some 20), .ld (some 7) (.t 19), none⟩, [19]),
  (⟨(some 21), .mv (.t 1), none⟩, [1]),
  (⟨(some 22), .mv (.t 5), none⟩, [5]),
  (⟨(some 23), .iad 7 (.t 21) (.t 22), none⟩, [21, 22]),
  (⟨(some 24), .ld (some 7) (.t 23), none⟩, [23]),
  (⟨(some 25), .eqs true [false, false, false, false, false, false, false] (.t 20) (.t 24), none⟩, [20, 24])]
abbrev c20_12 : AC := .reg [⟨(some 4), .mv (.k (.B false)), none⟩] false
abbrev c20_13 : AC := .seq c20_12 .ret
abbrev c20_14 : AC := .cond (.t 25) c20_13 .skip
abbrev c20_15 : AC := .seq c20_11 c20_14
abbrev c20_16 : AC := .block 1 c20_15
abbrev c20_17 : AC := .reg [⟨(some 15), .mv (.t 5), none⟩,
  ⟨(some 16), .bin .add (.t 15) (.k (.I 1)), none⟩,
  ⟨(some 5), .mv (.t 16), none⟩] false
abbrev c20_18 : AC := .seq c20_16 c20_17
abbrev c20_19 : AC := .seq c20_10 c20_18
abbrev c20_20 : AC := .loop c20_19
abbrev c20_21 : AC := .block 0 c20_20
abbrev c20_22 : AC := .seq c20_7 c20_21
abbrev c20_23 : AC := .reg [⟨(some 4), .mv (.k (.B true)), none⟩] false
abbrev c20_24 : AC := .seq c20_23 .ret
abbrev c20_25 : AC := .seq c20_22 c20_24
abbrev c20_26 : AC := .seq c20_6 c20_25
abbrev c20_27 : AC := .seq c20_1 c20_26
abbrev c20 : AC := c20_27
theorem code20 : fnCode Try.prog 20 = some (c20, [4], 26) := by kernel_rfl
/- coinage/wear.Clashes -/
abbrev c21_1 : AC := .reg [⟨(some 2), .mv (.k (.c .nil)), none⟩,
  ⟨(some 3), .mv (.k (.I 0)), none⟩] false
abbrev c21_2 : AC := .reg [⟨(some 5), .mv (.t 0), none⟩,
  ⟨(some 6), .call 37 [(.t 5)], none⟩,
  ⟨(some 4), .mv (.t 6), none⟩] false
abbrev c21_3 : AC := .reg [⟨(some 7), .mv (.t 4), none⟩,
  ⟨(some 8), .bin .neq (.t 7) (.k (.I 0)), none⟩] false
abbrev c21_4 : AC := .reg [⟨(some 9), .mv (.t 4), none⟩,
  ⟨(some 2), .mv (.k (.c .nil)), none⟩,
  ⟨(some 3), .mv (.t 9), none⟩] false
abbrev c21_5 : AC := .seq c21_4 .ret
abbrev c21_6 : AC := .cond (.t 8) c21_5 .skip
abbrev c21_7 : AC := .seq c21_3 c21_6
abbrev c21_8 : AC := .seq c21_2 c21_7
abbrev c21_9 : AC := .reg [⟨(some 10), .mv (.t 0), none⟩,
  ⟨(some 11), .call 42 [(.t 10), (.k (.fn 43 []))], none⟩,
  ⟨(some 2), .mv (.t 11), none⟩,
  ⟨(some 3), .mv (.k (.I 0)), none⟩] false
abbrev c21_10 : AC := .seq c21_9 .ret
abbrev c21_11 : AC := .seq c21_8 c21_10
abbrev c21_12 : AC := .seq c21_1 c21_11
abbrev c21 : AC := c21_12
theorem code21 : fnCode Try.prog 21 = some (c21, [2, 3], 12) := by kernel_rfl
/- coinage/wear.Alike -/
abbrev c22_1 : AC := .reg [⟨(some 2), .mv (.k (.c .nil)), none⟩,
  ⟨(some 3), .mv (.k (.I 0)), none⟩] false
abbrev c22_2 : AC := .reg [⟨(some 5), .mv (.t 0), none⟩,
  ⟨(some 6), .call 37 [(.t 5)], none⟩,
  ⟨(some 4), .mv (.t 6), none⟩] false
abbrev c22_3 : AC := .reg [⟨(some 7), .mv (.t 4), none⟩,
  ⟨(some 8), .bin .neq (.t 7) (.k (.I 0)), none⟩] false
abbrev c22_4 : AC := .reg [⟨(some 9), .mv (.t 4), none⟩,
  ⟨(some 2), .mv (.k (.c .nil)), none⟩,
  ⟨(some 3), .mv (.t 9), none⟩] false
abbrev c22_5 : AC := .seq c22_4 .ret
abbrev c22_6 : AC := .cond (.t 8) c22_5 .skip
abbrev c22_7 : AC := .seq c22_3 c22_6
abbrev c22_8 : AC := .seq c22_2 c22_7
abbrev c22_9 : AC := .reg [⟨(some 10), .mv (.t 0), none⟩,
  ⟨(some 11), .call 42 [(.t 10), (.k (.fn 44 []))], none⟩,
  ⟨(some 2), .mv (.t 11), none⟩,
  ⟨(some 3), .mv (.k (.I 0)), none⟩] false
abbrev c22_10 : AC := .seq c22_9 .ret
abbrev c22_11 : AC := .seq c22_8 c22_10
abbrev c22_12 : AC := .seq c22_1 c22_11
abbrev c22 : AC := c22_12
theorem code22 : fnCode Try.prog 22 = some (c22, [2, 3], 12) := by kernel_rfl
/- coinage/wear.States -/
abbrev c23_1 : AC := .reg [⟨(some 3), .box 47 (some 2) (.t 1), none⟩,
  ⟨(some 4), .mv (.k (.c .nil)), none⟩,
  ⟨(some 5), .mv (.k (.I 0)), none⟩] false
abbrev c23_2 : AC := .reg [⟨(some 7), .mv (.t 0), none⟩,
  ⟨(some 8), .call 37 [(.t 7)], none⟩,
  ⟨(some 6), .mv (.t 8), none⟩] false
abbrev c23_3 : AC := .reg [⟨(some 9), .mv (.t 6), none⟩,
  ⟨(some 10), .bin .neq (.t 9) (.k (.I 0)), none⟩] false
abbrev c23_4 : AC := .reg [⟨(some 11), .mv (.t 6), none⟩,
  ⟨(some 4), .mv (.k (.c .nil)), none⟩,
  ⟨(some 5), .mv (.t 11), none⟩] false
abbrev c23_5 : AC := .seq c23_4 .ret
abbrev c23_6 : AC := .cond (.t 10) c23_5 .skip
abbrev c23_7 : AC := .seq c23_3 c23_6
abbrev c23_8 : AC := .seq c23_2 c23_7
abbrev c23_9 : AC := .reg [⟨(some 12), .fad 0 (.t 3), none⟩,
  ⟨(some 13), .ld none (.t 12), none⟩,
  ⟨(some 14), .bin .neq (.t 13) (.k (.I 0)), none⟩,
  ⟨(some 15), .mv (.t 14), none⟩,
  ⟨(some 16), .fad 0 (.t 3), (some (15, true))⟩,
  ⟨(some 17), .ld none (.t 16), (some (15, true))⟩,
  ⟨(some 18), .bin .neq (.t 17) (.k (.I 1)), (some (15, true))⟩,
  ⟨(some 19), .pick (.t 15) (.t 18) (.k (.B false)), none⟩,
  ⟨(some 20), .mv (.t 19), none⟩,
  ⟨(some 21), .fad 1 (.t 3), (some (20, false))⟩,
  ⟨(some 22), .ld none (.t 21), (some (20, false))⟩,
  ⟨(some 23), .bin .lss (.t 22) (.k (.I 1)), (some (20, false))⟩,
  ⟨(some 24), .pick (.t 20) (.k (.B true)) (.t 23), none⟩,
  ⟨(some 25), .mv (.t 24), none⟩,
  ⟨(some 26), .fad 1 (.t 3), (some (25, false))⟩,
  ⟨(some 27), .ld none (.t 26), (some (25, false))⟩,
  ⟨(some 28), .bin .gtr (.t 27) (.k (.I 999)), (some (25, false))⟩,
  ⟨(some 29), .pick (.t 25) (.k (.B true)) (.t 28), none⟩] false
abbrev c23_10 : AC := .reg [⟨(some 4), .mv (.k (.c .nil)), none⟩,
  ⟨(some 5), .mv (.k (.I 1)), none⟩] false
abbrev c23_11 : AC := .seq c23_10 .ret
abbrev c23_12 : AC := .cond (.t 29) c23_11 .skip
abbrev c23_13 : AC := .seq c23_9 c23_12
abbrev c23_14 : AC := .reg [⟨(some 30), .mv (.t 0), none⟩,
  ⟨(some 31), .ld (some 2) (.t 3), none⟩,
  ⟨(some 32), .call 45 [(.t 30), (.t 31)], none⟩,
  ⟨(some 4), .mv (.t 32), none⟩,
  ⟨(some 5), .mv (.k (.I 0)), none⟩] false
abbrev c23_15 : AC := .seq c23_14 .ret
abbrev c23_16 : AC := .seq c23_13 c23_15
abbrev c23_17 : AC := .seq c23_8 c23_16
abbrev c23_18 : AC := .seq c23_1 c23_17
abbrev c23 : AC := c23_18
theorem code23 : fnCode Try.prog 23 = some (c23, [4, 5], 33) := by kernel_rfl
/- coinage/coinageref21.Clashes -/
abbrev c24_1 : AC := .reg [⟨(some 2), .mv (.k (.c .nil)), none⟩,
  ⟨(some 3), .mv (.k (.I 0)), none⟩] false
abbrev c24_2 : AC := .reg [⟨(some 8), .mv (.t 0), none⟩,
  ⟨(some 9), .call 15 [(.t 8)], none⟩,
  ⟨(some 4), .mv (.t 9), none⟩] false
abbrev c24_3 : AC := .reg [⟨(some 10), .mv (.t 4), none⟩,
  ⟨(some 11), .bin .neq (.t 10) (.k (.I 0)), none⟩] false
abbrev c24_4 : AC := .reg [⟨(some 12), .mv (.t 4), none⟩,
  ⟨(some 2), .mv (.k (.c .nil)), none⟩,
  ⟨(some 3), .mv (.t 12), none⟩] false
abbrev c24_5 : AC := .seq c24_4 .ret
abbrev c24_6 : AC := .cond (.t 11) c24_5 .skip
abbrev c24_7 : AC := .seq c24_3 c24_6
abbrev c24_8 : AC := .seq c24_2 c24_7
abbrev c24_9 : AC := .reg [⟨(some 5), .mv (.k (.c .nil)), none⟩] false
abbrev c24_10 : AC := .reg [⟨(some 6), .mv (.k (.I 0)), none⟩] false
abbrev c24_11 : AC := .reg [⟨(some 13), .mv (.t 6), none⟩,
  ⟨(some 14), .mv (.t 0), none⟩,
  ⟨(some 15), .len (.t 14), none⟩,
  ⟨(some 16), .bin .lss (.t 13) (.t 15), none⟩] false
abbrev c24_12 : AC := .cond (.t 16) .skip (.exit 0)
abbrev c24_13 : AC := .seq c24_11 c24_12
abbrev c24_14 : AC := .reg [⟨(some 19), .mv (.t 6), none⟩,
  ⟨(some 20), .bin .add (.t 19) (.k (.I 1)), none⟩,
  ⟨(some 7), .mv (.t 20), none⟩] false
abbrev c24_15 : AC := .reg [⟨(some 21), .mv (.t 7), none⟩,
  ⟨(some 22), .mv (.t 0), none⟩,
  ⟨(some 23), .len (.t 22), none⟩,
  ⟨(some 24), .bin .lss (.t 21) (.t 23), none⟩] false
abbrev c24_16 : AC := .cond (.t 24) .skip (.exit 2)
abbrev c24_17 : AC := .seq c24_15 c24_16
abbrev c24_18 : AC := .regD [(⟨(some 27), .mv (.t 0), none⟩, [0]),
  (⟨(some 28), .mv (.t 6), none⟩, [6]),
  (⟨(some 29), .iad 7 (.t 27) (.t 28), none⟩, [27, 28]),
  (⟨(some 30), .ld (some 7) (.t 29), none⟩, [29]),
  (⟨(some 31), .mv (.t 0), none⟩, [0]),
  (⟨(some 32), .mv (.t 7), none⟩, [7]),
  (⟨(some 33), .iad 7 (.t 31) (.t 32), none⟩, [31, 32]),
  (⟨(some 34), .ld (some 7) (.t 33), none⟩, [33]),
  (⟨(some 35), .call 12 [(.t 30), (.t 34)], none⟩, [30, 34]),
  (⟨(some 36), .bin .eql (.t 35) (.k (.I 3)), none⟩, [35])]
abbrev c24_19 : AC := .reg [⟨(some 37), .mv (.t 5), none⟩,
  ⟨(some 38), .mv (.t 6), none⟩,
  ⟨(some 39), .mv (.t 7), none⟩,
  ⟨(some 40), .build [(.I 0), (.I 0)] [(0, 1, (.t 38)), (1, 1, (.t 39))], none⟩,
  ⟨(some 41), .bslice 45 2 [(.t 40)], none⟩,
  ⟨(some 42), .app 45 2 16 (.t 37) (.t 41), none⟩,
  ⟨(some 5), .mv (.t 42), none⟩] false
abbrev c24_20 : AC := .cond (.t 36) c24_19 .skip
abbrev c24_21 : AC := .seq c24_18 c24_20
abbrev c24_22 : AC := .block 3 c24_21
abbrev c24_23 : AC := .reg [⟨(some 25), .mv (.t 7), none⟩,
  ⟨(some 26), .bin .add (.t 25) (.k (.I 1)), none⟩,
  ⟨(some 7), .mv (.t 26), none⟩] false
abbrev c24_24 : AC := .seq c24_22 c24_23
abbrev c24_25 : AC := .seq c24_17 c24_24
abbrev c24_26 : AC := .loop c24_25
abbrev c24_27 : AC := .block 2 c24_26
abbrev c24_28 : AC := .seq c24_14 c24_27
abbrev c24_29 : AC := .block 1 c24_28
abbrev c24_30 : AC := .reg [⟨(some 17), .mv (.t 6), none⟩,
  ⟨(some 18), .bin .add (.t 17) (.k (.I 1)), none⟩,
  ⟨(some 6), .mv (.t 18), none⟩] false
abbrev c24_31 : AC := .seq c24_29 c24_30
abbrev c24_32 : AC := .seq c24_13 c24_31
abbrev c24_33 : AC := .loop c24_32
abbrev c24_34 : AC := .block 0 c24_33
abbrev c24_35 : AC := .seq c24_10 c24_34
abbrev c24_36 : AC := .reg [⟨(some 43), .mv (.t 5), none⟩,
  ⟨(some 2), .mv (.t 43), none⟩,
  ⟨(some 3), .mv (.k (.I 0)), none⟩] false
abbrev c24_37 : AC := .seq c24_36 .ret
abbrev c24_38 : AC := .seq c24_35 c24_37
abbrev c24_39 : AC := .seq c24_9 c24_38
abbrev c24_40 : AC := .seq c24_8 c24_39
abbrev c24_41 : AC := .seq c24_1 c24_40
abbrev c24 : AC := c24_41
theorem code24 : fnCode Try.prog 24 = some (c24, [2, 3], 44) := by kernel_rfl
/- coinage/coinageref21.Alike -/
abbrev c25_1 : AC := .reg [⟨(some 2), .mv (.k (.c .nil)), none⟩,
  ⟨(some 3), .mv (.k (.I 0)), none⟩] false
abbrev c25_2 : AC := .reg [⟨(some 8), .mv (.t 0), none⟩,
  ⟨(some 9), .call 15 [(.t 8)], none⟩,
  ⟨(some 4), .mv (.t 9), none⟩] false
abbrev c25_3 : AC := .reg [⟨(some 10), .mv (.t 4), none⟩,
  ⟨(some 11), .bin .neq (.t 10) (.k (.I 0)), none⟩] false
abbrev c25_4 : AC := .reg [⟨(some 12), .mv (.t 4), none⟩,
  ⟨(some 2), .mv (.k (.c .nil)), none⟩,
  ⟨(some 3), .mv (.t 12), none⟩] false
abbrev c25_5 : AC := .seq c25_4 .ret
abbrev c25_6 : AC := .cond (.t 11) c25_5 .skip
abbrev c25_7 : AC := .seq c25_3 c25_6
abbrev c25_8 : AC := .seq c25_2 c25_7
abbrev c25_9 : AC := .reg [⟨(some 5), .mv (.k (.c .nil)), none⟩] false
abbrev c25_10 : AC := .reg [⟨(some 6), .mv (.k (.I 0)), none⟩] false
abbrev c25_11 : AC := .reg [⟨(some 13), .mv (.t 6), none⟩,
  ⟨(some 14), .mv (.t 0), none⟩,
  ⟨(some 15), .len (.t 14), none⟩,
  ⟨(some 16), .bin .lss (.t 13) (.t 15), none⟩] false
abbrev c25_12 : AC := .cond (.t 16) .skip (.exit 0)
abbrev c25_13 : AC := .seq c25_11 c25_12
abbrev c25_14 : AC := .reg [⟨(some 19), .mv (.t 6), none⟩,
  ⟨(some 20), .bin .add (.t 19) (.k (.I 1)), none⟩,
  ⟨(some 7), .mv (.t 20), none⟩] false
abbrev c25_15 : AC := .reg [⟨(some 21), .mv (.t 7), none⟩,
  ⟨(some 22), .mv (.t 0), none⟩,
  ⟨(some 23), .len (.t 22), none⟩,
  ⟨(some 24), .bin .lss (.t 21) (.t 23), none⟩] false
abbrev c25_16 : AC := .cond (.t 24) .skip (.exit 2)
abbrev c25_17 : AC := .seq c25_15 c25_16
abbrev c25_18 : AC := .regD [(⟨(some 27), .mv (.t 0), none⟩, [0]),
  (⟨(some 28), .mv (.t 6), none⟩, [6]),
  (⟨(some 29), .iad 7 (.t 27) (.t 28), none⟩, [27, 28]),
  (⟨(some 30), .ld (some 7) (.t 29), none⟩, [29]),
  (⟨(some 31), .mv (.t 0), none⟩, [0]),
  (⟨(some 32), .mv (.t 7), none⟩, [7]),
  (⟨(some 33), .iad 7 (.t 31) (.t 32), none⟩, [31, 32]),
  (⟨(some 34), .ld (some 7) (.t 33), none⟩, [33]),
  (⟨(some 35), .call 46 [(.t 30), (.t 34)], none⟩, [30, 34])]
abbrev c25_19 : AC := .reg [⟨(some 36), .mv (.t 5), none⟩,
  ⟨(some 37), .mv (.t 6), none⟩,
  ⟨(some 38), .mv (.t 7), none⟩,
  ⟨(some 39), .build [(.I 0), (.I 0)] [(0, 1, (.t 37)), (1, 1, (.t 38))], none⟩,
  ⟨(some 40), .bslice 45 2 [(.t 39)], none⟩,
  ⟨(some 41), .app 45 2 16 (.t 36) (.t 40), none⟩,
  ⟨(some 5), .mv (.t 41), none⟩] false
abbrev c25_20 : AC := .cond (.t 35) c25_19 .skip
abbrev c25_21 : AC := .seq c25_18 c25_20
abbrev c25_22 : AC := .block 3 c25_21
abbrev c25_23 : AC := .reg [⟨(some 25), .mv (.t 7), none⟩,
  ⟨(some 26), .bin .add (.t 25) (.k (.I 1)), none⟩,
  ⟨(some 7), .mv (.t 26), none⟩] false
abbrev c25_24 : AC := .seq c25_22 c25_23
abbrev c25_25 : AC := .seq c25_17 c25_24
abbrev c25_26 : AC := .loop c25_25
abbrev c25_27 : AC := .block 2 c25_26
abbrev c25_28 : AC := .seq c25_14 c25_27
abbrev c25_29 : AC := .block 1 c25_28
abbrev c25_30 : AC := .reg [⟨(some 17), .mv (.t 6), none⟩,
  ⟨(some 18), .bin .add (.t 17) (.k (.I 1)), none⟩,
  ⟨(some 6), .mv (.t 18), none⟩] false
abbrev c25_31 : AC := .seq c25_29 c25_30
abbrev c25_32 : AC := .seq c25_13 c25_31
abbrev c25_33 : AC := .loop c25_32
abbrev c25_34 : AC := .block 0 c25_33
abbrev c25_35 : AC := .seq c25_10 c25_34
abbrev c25_36 : AC := .reg [⟨(some 42), .mv (.t 5), none⟩,
  ⟨(some 2), .mv (.t 42), none⟩,
  ⟨(some 3), .mv (.k (.I 0)), none⟩] false
abbrev c25_37 : AC := .seq c25_36 .ret
abbrev c25_38 : AC := .seq c25_35 c25_37
abbrev c25_39 : AC := .seq c25_9 c25_38
abbrev c25_40 : AC := .seq c25_8 c25_39
abbrev c25_41 : AC := .seq c25_1 c25_40
abbrev c25 : AC := c25_41
theorem code25 : fnCode Try.prog 25 = some (c25, [2, 3], 43) := by kernel_rfl
/- coinage/coinageref21.States -/
abbrev c26_1 : AC := .reg [⟨(some 3), .box 47 (some 2) (.t 1), none⟩,
  ⟨(some 4), .mv (.k (.c .nil)), none⟩,
  ⟨(some 5), .mv (.k (.I 0)), none⟩] false
abbrev c26_2 : AC := .reg [⟨(some 12), .mv (.t 0), none⟩,
  ⟨(some 13), .call 15 [(.t 12)], none⟩,
  ⟨(some 6), .mv (.t 13), none⟩] false
abbrev c26_3 : AC := .reg [⟨(some 14), .mv (.t 6), none⟩,
  ⟨(some 15), .bin .neq (.t 14) (.k (.I 0)), none⟩] false
abbrev c26_4 : AC := .reg [⟨(some 16), .mv (.t 6), none⟩,
  ⟨(some 4), .mv (.k (.c .nil)), none⟩,
  ⟨(some 5), .mv (.t 16), none⟩] false
abbrev c26_5 : AC := .seq c26_4 .ret
abbrev c26_6 : AC := .cond (.t 15) c26_5 .skip
abbrev c26_7 : AC := .seq c26_3 c26_6
abbrev c26_8 : AC := .seq c26_2 c26_7
abbrev c26_9 : AC := .reg [⟨(some 17), .ld (some 2) (.t 3), none⟩,
  ⟨(some 18), .call 47 [(.t 17)], none⟩,
  ⟨(some 19), .not (.t 18), none⟩] false
abbrev c26_10 : AC := .reg [⟨(some 4), .mv (.k (.c .nil)), none⟩,
  ⟨(some 5), .mv (.k (.I 1)), none⟩] false
abbrev c26_11 : AC := .seq c26_10 .ret
abbrev c26_12 : AC := .cond (.t 19) c26_11 .skip
abbrev c26_13 : AC := .seq c26_9 c26_12
abbrev c26_14 : AC := .reg [⟨(some 7), .mv (.k (.c .nil)), none⟩] false
abbrev c26_15 : AC := .reg [⟨(some 8), .mv (.k (.I 1)), none⟩] false
abbrev c26_16 : AC := .reg [⟨(some 20), .mv (.t 8), none⟩,
  ⟨(some 21), .bin .leq (.t 20) (.k (.I 9)), none⟩] false
abbrev c26_17 : AC := .cond (.t 21) .skip (.exit 0)
abbrev c26_18 : AC := .seq c26_16 c26_17
abbrev c26_19 : AC := .reg [⟨(some 9), .mv (.k (.I 0)), none⟩] false
abbrev c26_20 : AC := .reg [⟨(some 24), .mv (.t 9), none⟩,
  ⟨(some 25), .mv (.t 0), none⟩,
  ⟨(some 26), .len (.t 25), none⟩,
  ⟨(some 27), .bin .lss (.t 24) (.t 26), none⟩] false
abbrev c26_21 : AC := .cond (.t 27) .skip (.exit 2)
abbrev c26_22 : AC := .seq c26_20 c26_21
abbrev c26_23 : AC := .regD [(⟨(some 31), .mv (.t 0), none⟩, [0]),
  (⟨(some 32), .mv (.t 9), none⟩, [9]),
  (⟨(some 33), .iad 7 (.t 31) (.t 32), none⟩, [31, 32]),
  (⟨(some 34), .ld (some 7) (.t 33), none⟩, [33]),
  (⟨(some 35), .fad 0 (.t 3), none⟩, [3]),
  (⟨(some 36), .ld none (.t 35), none⟩, [35]),
  (⟨(some 37), .call 48 [(.t 34), (.t 36)], none⟩, [34, 36]),
  (⟨(some 30), .mv (.t 37), none⟩, [37]),
  (⟨(some 38), .ext (.t 30) 0, none⟩, [30]),
  (⟨(some 39), .ext (.t 30) 1, none⟩, [30]),
  (⟨(some 10), .mv (.t 38), none⟩, [38]),
  (⟨(some 11), .mv (.t 39), none⟩, [39])]
abbrev c26_24 : AC := .reg [⟨(some 40), .mv (.t 10), none⟩,
  ⟨(some 41), .fad 1 (.t 3), none⟩,
  ⟨(some 42), .ld none (.t 41), none⟩,
  ⟨(some 43), .bin .eql (.t 40) (.t 42), none⟩,
  ⟨(some 44), .mv (.t 43), none⟩,
  ⟨(some 45), .mv (.t 11), (some (44, true))⟩,
  ⟨(some 46), .mv (.t 8), (some (44, true))⟩,
  ⟨(some 47), .bin .eql (.t 45) (.t 46), (some (44, true))⟩,
  ⟨(some 48), .pick (.t 44) (.t 47) (.k (.B false)), none⟩,
  ⟨(some 49), .mv (.t 48), none⟩,
  ⟨(some 50), .mv (.t 7), (some (49, true))⟩,
  ⟨(some 51), .mv (.t 8), (some (49, true))⟩,
  ⟨(some 52), .call 49 [(.t 50), (.t 51)], (some (49, true))⟩,
  ⟨(some 53), .not (.t 52), (some (49, true))⟩,
  ⟨(some 54), .pick (.t 49) (.t 53) (.k (.B false)), none⟩] false
abbrev c26_25 : AC := .reg [⟨(some 55), .mv (.t 7), none⟩,
  ⟨(some 56), .mv (.t 8), none⟩,
  ⟨(some 57), .bslice 3 1 [(.t 56)], none⟩,
  ⟨(some 58), .app 3 1 8 (.t 55) (.t 57), none⟩,
  ⟨(some 7), .mv (.t 58), none⟩] false
abbrev c26_26 : AC := .cond (.t 54) c26_25 .skip
abbrev c26_27 : AC := .seq c26_24 c26_26
abbrev c26_28 : AC := .seq c26_23 c26_27
abbrev c26_29 : AC := .block 3 c26_28
abbrev c26_30 : AC := .reg [⟨(some 28), .mv (.t 9), none⟩,
  ⟨(some 29), .bin .add (.t 28) (.k (.I 1)), none⟩,
  ⟨(some 9), .mv (.t 29), none⟩] false
abbrev c26_31 : AC := .seq c26_29 c26_30
abbrev c26_32 : AC := .seq c26_22 c26_31
abbrev c26_33 : AC := .loop c26_32
abbrev c26_34 : AC := .block 2 c26_33
abbrev c26_35 : AC := .seq c26_19 c26_34
abbrev c26_36 : AC := .block 1 c26_35
abbrev c26_37 : AC := .reg [⟨(some 22), .mv (.t 8), none⟩,
  ⟨(some 23), .bin .add (.t 22) (.k (.I 1)), none⟩,
  ⟨(some 8), .mv (.t 23), none⟩] false
abbrev c26_38 : AC := .seq c26_36 c26_37
abbrev c26_39 : AC := .seq c26_18 c26_38
abbrev c26_40 : AC := .loop c26_39
abbrev c26_41 : AC := .block 0 c26_40
abbrev c26_42 : AC := .seq c26_15 c26_41
abbrev c26_43 : AC := .reg [⟨(some 59), .mv (.t 7), none⟩,
  ⟨(some 4), .mv (.t 59), none⟩,
  ⟨(some 5), .mv (.k (.I 0)), none⟩] false
abbrev c26_44 : AC := .seq c26_43 .ret
abbrev c26_45 : AC := .seq c26_42 c26_44
abbrev c26_46 : AC := .seq c26_14 c26_45
abbrev c26_47 : AC := .seq c26_13 c26_46
abbrev c26_48 : AC := .seq c26_8 c26_47
abbrev c26_49 : AC := .seq c26_1 c26_48
abbrev c26 : AC := c26_49
theorem code26 : fnCode Try.prog 26 = some (c26, [4, 5], 60) := by kernel_rfl
/- coinage/coinagebase.Pairs -/
abbrev c27_1 : AC := .reg [⟨(some 4), .mv (.k (.B false)), none⟩] false
abbrev c27_2 : AC := .reg [⟨(some 6), .mv (.t 0), none⟩,
  ⟨(some 7), .len (.t 6), none⟩,
  ⟨(some 8), .mv (.t 1), none⟩,
  ⟨(some 9), .len (.t 8), none⟩,
  ⟨(some 10), .bin .neq (.t 7) (.t 9), none⟩] false
abbrev c27_3 : AC := .reg [⟨(some 4), .mv (.k (.B false)), none⟩] false
abbrev c27_4 : AC := .seq c27_3 .ret
abbrev c27_5 : AC := .cond (.t 10) c27_4 .skip
abbrev c27_6 : AC := .seq c27_2 c27_5
abbrev c27_7 : AC := .reg [⟨(some 5), .mv (.k (.I 0)), none⟩] false
abbrev c27_8 : AC := .reg [⟨(some 11), .mv (.t 5), none⟩,
  ⟨(some 12), .mv (.t 0), none⟩,
  ⟨(some 13), .len (.t 12), none⟩,
  ⟨(some 14), .bin .lss (.t 11) (.t 13), none⟩] false
abbrev c27_9 : AC := .cond (.t 14) .skip (.exit 0)
abbrev c27_10 : AC := .seq c27_8 c27_9
abbrev c27_11 : AC := .regD [(⟨(some 17), .mv (.t 0), none⟩, [0]),
  (⟨(some 18), .mv (.t 5), none⟩, [5]),
  (⟨(some 19), .iad 2 (.t 17) (.t 18), none⟩, [17, 18]),
  (⟨(some 20), .ld (some 2) (.t 19), none⟩, [19]),
  (⟨(some 21), .mv (.t 1), none⟩, [1]),
  (⟨(some 22), .mv (.t 5), none⟩, [5]),
  (⟨(some 23), .iad 2 (.t 21) (.t 22), none⟩, [21, 22]),
  (⟨(some 24), .ld (some 2) (.t 23), none⟩, [23]),
  (⟨(some 25), .eqs true [false, false] (.t 20) (.t 24), none⟩, [20, 24])]
abbrev c27_12 : AC := .reg [⟨(some 4), .mv (.k (.B false)), none⟩] false
abbrev c27_13 : AC := .seq c27_12 .ret
abbrev c27_14 : AC := .cond (.t 25) c27_13 .skip
abbrev c27_15 : AC := .seq c27_11 c27_14
abbrev c27_16 : AC := .block 1 c27_15
abbrev c27_17 : AC := .reg [⟨(some 15), .mv (.t 5), none⟩,
  ⟨(some 16), .bin .add (.t 15) (.k (.I 1)), none⟩,
  ⟨(some 5), .mv (.t 16), none⟩] false
abbrev c27_18 : AC := .seq c27_16 c27_17
abbrev c27_19 : AC := .seq c27_10 c27_18
abbrev c27_20 : AC := .loop c27_19
abbrev c27_21 : AC := .block 0 c27_20
abbrev c27_22 : AC := .seq c27_7 c27_21
abbrev c27_23 : AC := .reg [⟨(some 4), .mv (.k (.B true)), none⟩] false
abbrev c27_24 : AC := .seq c27_23 .ret
abbrev c27_25 : AC := .seq c27_22 c27_24
abbrev c27_26 : AC := .seq c27_6 c27_25
abbrev c27_27 : AC := .seq c27_1 c27_26
abbrev c27 : AC := c27_27
theorem code27 : fnCode Try.prog 27 = some (c27, [4], 26) := by kernel_rfl
/- coinage/coinagebase.Ints -/
abbrev c28_1 : AC := .reg [⟨(some 4), .mv (.k (.B false)), none⟩] false
abbrev c28_2 : AC := .reg [⟨(some 6), .mv (.t 0), none⟩,
  ⟨(some 7), .len (.t 6), none⟩,
  ⟨(some 8), .mv (.t 1), none⟩,
  ⟨(some 9), .len (.t 8), none⟩,
  ⟨(some 10), .bin .neq (.t 7) (.t 9), none⟩] false
abbrev c28_3 : AC := .reg [⟨(some 4), .mv (.k (.B false)), none⟩] false
abbrev c28_4 : AC := .seq c28_3 .ret
abbrev c28_5 : AC := .cond (.t 10) c28_4 .skip
abbrev c28_6 : AC := .seq c28_2 c28_5
abbrev c28_7 : AC := .reg [⟨(some 5), .mv (.k (.I 0)), none⟩] false
abbrev c28_8 : AC := .reg [⟨(some 11), .mv (.t 5), none⟩,
  ⟨(some 12), .mv (.t 0), none⟩,
  ⟨(some 13), .len (.t 12), none⟩,
  ⟨(some 14), .bin .lss (.t 11) (.t 13), none⟩] false
abbrev c28_9 : AC := .cond (.t 14) .skip (.exit 0)
abbrev c28_10 : AC := .seq c28_8 c28_9
abbrev c28_11 : AC := .regD [(⟨(some 17), .mv (.t 0), none⟩, [0]),
  (⟨(some 18), .mv (.t 5), none⟩, [5]),
  (⟨(some 19), .iad 1 (.t 17) (.t 18), none⟩, [17, 18]),
  (⟨(some 20), .ld none (.t 19), none⟩, [19]),
  (⟨(some 21), .mv (.t 1), none⟩, [1]),
  (⟨(some 22), .mv (.t 5), none⟩, [5]),
  (⟨(some 23), .iad 1 (.t 21) (.t 22), none⟩, [21, 22]),
  (⟨(some 24), .ld none (.t 23), none⟩, [23]),
  (⟨(some 25), .bin .neq (.t 20) (.t 24), none⟩, [20, 24])]
abbrev c28_12 : AC := .reg [⟨(some 4), .mv (.k (.B false)), none⟩] false
abbrev c28_13 : AC := .seq c28_12 .ret
abbrev c28_14 : AC := .cond (.t 25) c28_13 .skip
abbrev c28_15 : AC := .seq c28_11 c28_14
abbrev c28_16 : AC := .block 1 c28_15
abbrev c28_17 : AC := .reg [⟨(some 15), .mv (.t 5), none⟩,
  ⟨(some 16), .bin .add (.t 15) (.k (.I 1)), none⟩,
  ⟨(some 5), .mv (.t 16), none⟩] false
abbrev c28_18 : AC := .seq c28_16 c28_17
abbrev c28_19 : AC := .seq c28_10 c28_18
abbrev c28_20 : AC := .loop c28_19
abbrev c28_21 : AC := .block 0 c28_20
abbrev c28_22 : AC := .seq c28_7 c28_21
abbrev c28_23 : AC := .reg [⟨(some 4), .mv (.k (.B true)), none⟩] false
abbrev c28_24 : AC := .seq c28_23 .ret
abbrev c28_25 : AC := .seq c28_22 c28_24
abbrev c28_26 : AC := .seq c28_6 c28_25
abbrev c28_27 : AC := .seq c28_1 c28_26
abbrev c28 : AC := c28_27
theorem code28 : fnCode Try.prog 28 = some (c28, [4], 26) := by kernel_rfl
/- coinage/wear.Renumber -/
abbrev c29_1 : AC := .reg [⟨(some 2), .mv (.k (.c .nil)), none⟩,
  ⟨(some 3), .mv (.k (.I 0)), none⟩] false
abbrev c29_2 : AC := .reg [⟨(some 8), .mv (.t 0), none⟩,
  ⟨(some 9), .call 37 [(.t 8)], none⟩,
  ⟨(some 4), .mv (.t 9), none⟩] false
abbrev c29_3 : AC := .reg [⟨(some 10), .mv (.t 4), none⟩,
  ⟨(some 11), .bin .neq (.t 10) (.k (.I 0)), none⟩] false
abbrev c29_4 : AC := .reg [⟨(some 12), .mv (.t 4), none⟩,
  ⟨(some 2), .mv (.k (.c .nil)), none⟩,
  ⟨(some 3), .mv (.t 12), none⟩] false
abbrev c29_5 : AC := .seq c29_4 .ret
abbrev c29_6 : AC := .cond (.t 11) c29_5 .skip
abbrev c29_7 : AC := .seq c29_3 c29_6
abbrev c29_8 : AC := .seq c29_2 c29_7
abbrev c29_9 : AC := .reg [⟨(some 13), .mv (.t 0), none⟩,
  ⟨(some 14), .call 50 [(.t 13)], none⟩,
  ⟨(some 5), .mv (.t 14), none⟩] false
abbrev c29_10 : AC := .reg [⟨(some 15), .mv (.t 0), none⟩,
  ⟨(some 16), .len (.t 15), none⟩,
  ⟨(some 17), .mv (.k (.I 0)), none⟩] false
abbrev c29_11 : AC := .reg [⟨(some 18), .bin .lss (.t 17) (.t 16), none⟩] false
abbrev c29_12 : AC := .cond (.t 18) .skip (.exit 0)
abbrev c29_13 : AC := .reg [⟨(some 19), .mv (.t 17), none⟩,
  ⟨(some 20), .iad 7 (.t 15) (.t 17), none⟩,
  ⟨(some 21), .ld (some 7) (.t 20), none⟩,
  ⟨(some 7), .alloc 23 [(.I 0), (.I 0), (.I 0), (.I 0), (.I 0), (.I 0), (.I 0)], none⟩,
  ⟨(some 6), .mv (.t 19), none⟩,
  ⟨none, .st (some 7) (.t 7) (.t 21), none⟩] false
abbrev c29_14 : AC := .regX (.first ⟨(some 22), .mv (.t 5), none⟩
  (.first ⟨(some 23), .mv (.t 6), none⟩
  (.first ⟨(some 24), .mv (.t 0), none⟩
  (.first ⟨(some 25), .fad 1 (.t 7), none⟩
  (.first ⟨(some 29), .fad 3 (.t 7), none⟩
  (.fork ⟨(some 26), .ld none (.t 25), none⟩
  (.first ⟨(some 27), .build [(.I 0), (.I 0)] [(0, 1, (.k (.I 0))), (1, 1, (.t 26))], none⟩
  (.fork ⟨(some 28), .call 45 [(.t 24), (.t 27)], none⟩
  (.fork ⟨(some 30), .ld none (.t 29), none⟩
  (.fork ⟨(some 31), .call 51 [(.t 28), (.t 30)], none⟩
  (.first ⟨(some 32), .bin .add (.k (.I 1)) (.t 31), none⟩
  (.first ⟨(some 33), .iad 7 (.t 22) (.t 23), none⟩
  (.first ⟨(some 34), .fad 3 (.t 33), none⟩
  (.fork ⟨none, .st none (.t 34) (.t 32), none⟩
  .done
  .nope))))
  .nope)
  .nope)
  (.fork ⟨(some 30), .ld none (.t 29), none⟩
  (.fork ⟨(some 28), .call 45 [(.t 24), (.t 27)], none⟩
  (.fork ⟨(some 31), .call 51 [(.t 28), (.t 30)], none⟩
  (.first ⟨(some 32), .bin .add (.k (.I 1)) (.t 31), none⟩
  (.first ⟨(some 33), .iad 7 (.t 22) (.t 23), none⟩
  (.first ⟨(some 34), .fad 3 (.t 33), none⟩
  (.fork ⟨none, .st none (.t 34) (.t 32), none⟩
  .done
  .nope))))
  .nope)
  .nope)
  .nope)))
  (.fork ⟨(some 30), .ld none (.t 29), none⟩
  (.fork ⟨(some 26), .ld none (.t 25), none⟩
  (.first ⟨(some 27), .build [(.I 0), (.I 0)] [(0, 1, (.k (.I 0))), (1, 1, (.t 26))], none⟩
  (.fork ⟨(some 28), .call 45 [(.t 24), (.t 27)], none⟩
  (.fork ⟨(some 31), .call 51 [(.t 28), (.t 30)], none⟩
  (.first ⟨(some 32), .bin .add (.k (.I 1)) (.t 31), none⟩
  (.first ⟨(some 33), .iad 7 (.t 22) (.t 23), none⟩
  (.first ⟨(some 34), .fad 3 (.t 33), none⟩
  (.fork ⟨none, .st none (.t 34) (.t 32), none⟩
  .done
  .nope))))
  .nope)
  .nope))
  .nope)
  .nope)))))))
abbrev c29_15 : AC := .regX (.first ⟨(some 35), .mv (.t 5), none⟩
  (.first ⟨(some 36), .mv (.t 6), none⟩
  (.first ⟨(some 37), .mv (.t 0), none⟩
  (.first ⟨(some 38), .fad 2 (.t 7), none⟩
  (.first ⟨(some 42), .fad 4 (.t 7), none⟩
  (.fork ⟨(some 39), .ld none (.t 38), none⟩
  (.first ⟨(some 40), .build [(.I 0), (.I 0)] [(0, 1, (.k (.I 1))), (1, 1, (.t 39))], none⟩
  (.fork ⟨(some 41), .call 45 [(.t 37), (.t 40)], none⟩
  (.fork ⟨(some 43), .ld none (.t 42), none⟩
  (.fork ⟨(some 44), .call 51 [(.t 41), (.t 43)], none⟩
  (.first ⟨(some 45), .bin .add (.k (.I 1)) (.t 44), none⟩
  (.first ⟨(some 46), .iad 7 (.t 35) (.t 36), none⟩
  (.first ⟨(some 47), .fad 4 (.t 46), none⟩
  (.fork ⟨none, .st none (.t 47) (.t 45), none⟩
  .done
  .nope))))
  .nope)
  .nope)
  (.fork ⟨(some 43), .ld none (.t 42), none⟩
  (.fork ⟨(some 41), .call 45 [(.t 37), (.t 40)], none⟩
  (.fork ⟨(some 44), .call 51 [(.t 41), (.t 43)], none⟩
  (.first ⟨(some 45), .bin .add (.k (.I 1)) (.t 44), none⟩
  (.first ⟨(some 46), .iad 7 (.t 35) (.t 36), none⟩
  (.first ⟨(some 47), .fad 4 (.t 46), none⟩
  (.fork ⟨none, .st none (.t 47) (.t 45), none⟩
  .done
  .nope))))
  .nope)
  .nope)
  .nope)))
  (.fork ⟨(some 43), .ld none (.t 42), none⟩
  (.fork ⟨(some 39), .ld none (.t 38), none⟩
  (.first ⟨(some 40), .build [(.I 0), (.I 0)] [(0, 1, (.k (.I 1))), (1, 1, (.t 39))], none⟩
  (.fork ⟨(some 41), .call 45 [(.t 37), (.t 40)], none⟩
  (.fork ⟨(some 44), .call 51 [(.t 41), (.t 43)], none⟩
  (.first ⟨(some 45), .bin .add (.k (.I 1)) (.t 44), none⟩
  (.first ⟨(some 46), .iad 7 (.t 35) (.t 36), none⟩
  (.first ⟨(some 47), .fad 4 (.t 46), none⟩
  (.fork ⟨none, .st none (.t 47) (.t 45), none⟩
  .done
  .nope))))
  .nope)
  .nope))
  .nope)
  .nope)))))))
abbrev c29_16 : AC := .seq c29_14 c29_15
abbrev c29_17 : AC := .seq c29_13 c29_16
abbrev c29_18 : AC := .block 1 c29_17
abbrev c29_19 : AC := .reg [⟨(some 48), .bin .add (.t 17) (.k (.I 1)), none⟩,
  ⟨(some 17), .mv (.t 48), none⟩] false
abbrev c29_20 : AC := .seq c29_18 c29_19
abbrev c29_21 : AC := .seq c29_12 c29_20
abbrev c29_22 : AC := .seq c29_11 c29_21
abbrev c29_23 : AC := .loop c29_22
abbrev c29_24 : AC := .block 0 c29_23
abbrev c29_25 : AC := .seq c29_10 c29_24
abbrev c29_26 : AC := .reg [⟨(some 49), .mv (.t 5), none⟩,
  ⟨(some 2), .mv (.t 49), none⟩,
  ⟨(some 3), .mv (.k (.I 0)), none⟩] false
abbrev c29_27 : AC := .seq c29_26 .ret
abbrev c29_28 : AC := .seq c29_25 c29_27
abbrev c29_29 : AC := .seq c29_9 c29_28
abbrev c29_30 : AC := .seq c29_8 c29_29
abbrev c29_31 : AC := .seq c29_1 c29_30
abbrev c29 : AC := c29_31
theorem code29 : fnCode Try.prog 29 = some (c29, [2, 3], 50) := by kernel_rfl
/- coinage/coinageref21.Renumber -/
abbrev c30_1 : AC := .reg [⟨(some 2), .mv (.k (.c .nil)), none⟩,
  ⟨(some 3), .mv (.k (.I 0)), none⟩] false
abbrev c30_2 : AC := .reg [⟨(some 13), .mv (.t 0), none⟩,
  ⟨(some 14), .call 15 [(.t 13)], none⟩,
  ⟨(some 4), .mv (.t 14), none⟩] false
abbrev c30_3 : AC := .reg [⟨(some 15), .mv (.t 4), none⟩,
  ⟨(some 16), .bin .neq (.t 15) (.k (.I 0)), none⟩] false
abbrev c30_4 : AC := .reg [⟨(some 17), .mv (.t 4), none⟩,
  ⟨(some 2), .mv (.k (.c .nil)), none⟩,
  ⟨(some 3), .mv (.t 17), none⟩] false
abbrev c30_5 : AC := .seq c30_4 .ret
abbrev c30_6 : AC := .cond (.t 16) c30_5 .skip
abbrev c30_7 : AC := .seq c30_3 c30_6
abbrev c30_8 : AC := .seq c30_2 c30_7
abbrev c30_9 : AC := .reg [⟨(some 18), .bslice 23 7 [], none⟩,
  ⟨(some 19), .mv (.t 0), none⟩,
  ⟨(some 20), .app 23 7 56 (.t 18) (.t 19), none⟩,
  ⟨(some 5), .mv (.t 20), none⟩] false
abbrev c30_10 : AC := .reg [⟨(some 6), .mv (.k (.I 0)), none⟩] false
abbrev c30_11 : AC := .reg [⟨(some 21), .mv (.t 6), none⟩,
  ⟨(some 22), .mv (.t 0), none⟩,
  ⟨(some 23), .len (.t 22), none⟩,
  ⟨(some 24), .bin .lss (.t 21) (.t 23), none⟩] false
abbrev c30_12 : AC := .cond (.t 24) .skip (.exit 0)
abbrev c30_13 : AC := .seq c30_11 c30_12
abbrev c30_14 : AC := .reg [⟨(some 28), .mv (.t 0), none⟩,
  ⟨(some 29), .mv (.t 0), none⟩,
  ⟨(some 30), .mv (.t 6), none⟩,
  ⟨(some 31), .iad 7 (.t 29) (.t 30), none⟩,
  ⟨(some 32), .fad 1 (.t 31), none⟩,
  ⟨(some 33), .ld none (.t 32), none⟩,
  ⟨(some 34), .build [(.I 0), (.I 0)] [(0, 1, (.k (.I 0))), (1, 1, (.t 33))], none⟩,
  ⟨(some 35), .call 26 [(.t 28), (.t 34)], none⟩,
  ⟨(some 27), .mv (.t 35), none⟩,
  ⟨(some 36), .ext (.t 27) 0, none⟩,
  ⟨(some 37), .ext (.t 27) 1, none⟩,
  ⟨(some 7), .mv (.t 36), none⟩,
  ⟨(some 8), .mv (.t 37), none⟩] false
abbrev c30_15 : AC := .reg [⟨(some 39), .mv (.t 0), none⟩,
  ⟨(some 40), .mv (.t 0), none⟩,
  ⟨(some 41), .mv (.t 6), none⟩,
  ⟨(some 42), .iad 7 (.t 40) (.t 41), none⟩,
  ⟨(some 43), .fad 2 (.t 42), none⟩,
  ⟨(some 44), .ld none (.t 43), none⟩,
  ⟨(some 45), .build [(.I 0), (.I 0)] [(0, 1, (.k (.I 1))), (1, 1, (.t 44))], none⟩,
  ⟨(some 46), .call 26 [(.t 39), (.t 45)], none⟩,
  ⟨(some 38), .mv (.t 46), none⟩,
  ⟨(some 47), .ext (.t 38) 0, none⟩,
  ⟨(some 48), .ext (.t 38) 1, none⟩,
  ⟨(some 9), .mv (.t 47), none⟩,
  ⟨(some 10), .mv (.t 48), none⟩] false
abbrev c30_16 : AC := .reg [⟨(some 11), .mv (.k (.I 0)), none⟩] false
abbrev c30_17 : AC := .reg [⟨(some 49), .mv (.t 11), none⟩,
  ⟨(some 50), .mv (.t 7), none⟩,
  ⟨(some 51), .len (.t 50), none⟩,
  ⟨(some 52), .bin .lss (.t 49) (.t 51), none⟩] false
abbrev c30_18 : AC := .cond (.t 52) .skip (.exit 2)
abbrev c30_19 : AC := .seq c30_17 c30_18
abbrev c30_20 : AC := .regD [(⟨(some 55), .mv (.t 7), none⟩, [7]),
  (⟨(some 56), .mv (.t 11), none⟩, [11]),
  (⟨(some 57), .iad 1 (.t 55) (.t 56), none⟩, [55, 56]),
  (⟨(some 58), .ld none (.t 57), none⟩, [57]),
  (⟨(some 59), .mv (.t 0), none⟩, [0]),
  (⟨(some 60), .mv (.t 6), none⟩, [6]),
  (⟨(some 61), .iad 7 (.t 59) (.t 60), none⟩, [59, 60]),
  (⟨(some 62), .fad 3 (.t 61), none⟩, [61]),
  (⟨(some 63), .ld none (.t 62), none⟩, [62]),
  (⟨(some 64), .bin .eql (.t 58) (.t 63), none⟩, [58, 63])]
abbrev c30_21 : AC := .reg [⟨(some 65), .mv (.t 5), none⟩,
  ⟨(some 66), .mv (.t 6), none⟩,
  ⟨(some 67), .mv (.t 11), none⟩,
  ⟨(some 68), .bin .add (.t 67) (.k (.I 1)), none⟩,
  ⟨(some 69), .iad 7 (.t 65) (.t 66), none⟩,
  ⟨(some 70), .fad 3 (.t 69), none⟩,
  ⟨none, .st none (.t 70) (.t 68), none⟩] false
abbrev c30_22 : AC := .cond (.t 64) c30_21 .skip
abbrev c30_23 : AC := .seq c30_20 c30_22
abbrev c30_24 : AC := .block 3 c30_23
abbrev c30_25 : AC := .reg [⟨(some 53), .mv (.t 11), none⟩,
  ⟨(some 54), .bin .add (.t 53) (.k (.I 1)), none⟩,
  ⟨(some 11), .mv (.t 54), none⟩] false
abbrev c30_26 : AC := .seq c30_24 c30_25
abbrev c30_27 : AC := .seq c30_19 c30_26
abbrev c30_28 : AC := .loop c30_27
abbrev c30_29 : AC := .block 2 c30_28
abbrev c30_30 : AC := .seq c30_16 c30_29
abbrev c30_31 : AC := .reg [⟨(some 12), .mv (.k (.I 0)), none⟩] false
abbrev c30_32 : AC := .reg [⟨(some 71), .mv (.t 12), none⟩,
  ⟨(some 72), .mv (.t 9), none⟩,
  ⟨(some 73), .len (.t 72), none⟩,
  ⟨(some 74), .bin .lss (.t 71) (.t 73), none⟩] false
abbrev c30_33 : AC := .cond (.t 74) .skip (.exit 4)
abbrev c30_34 : AC := .seq c30_32 c30_33
abbrev c30_35 : AC := .regD [(⟨(some 77), .mv (.t 9), none⟩, [9]),
  (⟨(some 78), .mv (.t 12), none⟩, [12]),
  (⟨(some 79), .iad 1 (.t 77) (.t 78), none⟩, [77, 78]),
  (⟨(some 80), .ld none (.t 79), none⟩, [79]),
  (⟨(some 81), .mv (.t 0), none⟩, [0]),
  (⟨(some 82), .mv (.t 6), none⟩, [6]),
  (⟨(some 83), .iad 7 (.t 81) (.t 82), none⟩, [81, 82]),
  (⟨(some 84), .fad 4 (.t 83), none⟩, [83]),
  (⟨(some 85), .ld none (.t 84), none⟩, [84]),
  (⟨(some 86), .bin .eql (.t 80) (.t 85), none⟩, [80, 85])]
abbrev c30_36 : AC := .reg [⟨(some 87), .mv (.t 5), none⟩,
  ⟨(some 88), .mv (.t 6), none⟩,
  ⟨(some 89), .mv (.t 12), none⟩,
  ⟨(some 90), .bin .add (.t 89) (.k (.I 1)), none⟩,
  ⟨(some 91), .iad 7 (.t 87) (.t 88), none⟩,
  ⟨(some 92), .fad 4 (.t 91), none⟩,
  ⟨none, .st none (.t 92) (.t 90), none⟩] false
abbrev c30_37 : AC := .cond (.t 86) c30_36 .skip
abbrev c30_38 : AC := .seq c30_35 c30_37
abbrev c30_39 : AC := .block 5 c30_38
abbrev c30_40 : AC := .reg [⟨(some 75), .mv (.t 12), none⟩,
  ⟨(some 76), .bin .add (.t 75) (.k (.I 1)), none⟩,
  ⟨(some 12), .mv (.t 76), none⟩] false
abbrev c30_41 : AC := .seq c30_39 c30_40
abbrev c30_42 : AC := .seq c30_34 c30_41
abbrev c30_43 : AC := .loop c30_42
abbrev c30_44 : AC := .block 4 c30_43
abbrev c30_45 : AC := .seq c30_31 c30_44
abbrev c30_46 : AC := .seq c30_30 c30_45
abbrev c30_47 : AC := .seq c30_15 c30_46
abbrev c30_48 : AC := .seq c30_14 c30_47
abbrev c30_49 : AC := .block 1 c30_48
abbrev c30_50 : AC := .reg [⟨(some 25), .mv (.t 6), none⟩,
  ⟨(some 26), .bin .add (.t 25) (.k (.I 1)), none⟩,
  ⟨(some 6), .mv (.t 26), none⟩] false
abbrev c30_51 : AC := .seq c30_49 c30_50
abbrev c30_52 : AC := .seq c30_13 c30_51
abbrev c30_53 : AC := .loop c30_52
abbrev c30_54 : AC := .block 0 c30_53
abbrev c30_55 : AC := .seq c30_10 c30_54
abbrev c30_56 : AC := .reg [⟨(some 93), .mv (.t 5), none⟩,
  ⟨(some 2), .mv (.t 93), none⟩,
  ⟨(some 3), .mv (.k (.I 0)), none⟩] false
abbrev c30_57 : AC := .seq c30_56 .ret
abbrev c30_58 : AC := .seq c30_55 c30_57
abbrev c30_59 : AC := .seq c30_9 c30_58
abbrev c30_60 : AC := .seq c30_8 c30_59
abbrev c30_61 : AC := .seq c30_1 c30_60
abbrev c30 : AC := c30_61
theorem code30 : fnCode Try.prog 30 = some (c30, [2, 3], 94) := by kernel_rfl
/- coinage/coinagelaw21.three -/
abbrev c31_1 : AC := .reg [⟨(some 0), .mv (.k (.c .nil)), none⟩] false
abbrev c31_2 : AC := .reg [⟨(some 1), .build [(.I 0), (.I 0), (.I 0), (.I 0), (.I 0), (.I 0), (.I 0)] [(0, 1, (.k (.I 1))), (1, 1, (.k (.I 1))), (2, 1, (.k (.I 1))), (3, 1, (.k (.I 1))), (4, 1, (.k (.I 2))), (6, 1, (.k (.I 1)))], none⟩,
  ⟨(some 2), .build [(.I 0), (.I 0), (.I 0), (.I 0), (.I 0), (.I 0), (.I 0)] [(0, 1, (.k (.I 2))), (1, 1, (.k (.I 1))), (2, 1, (.k (.I 1))), (3, 1, (.k (.I 2))), (4, 1, (.k (.I 1))), (6, 1, (.k (.I 1)))], none⟩,
  ⟨(some 3), .build [(.I 0), (.I 0), (.I 0), (.I 0), (.I 0), (.I 0), (.I 0)] [(0, 1, (.k (.I 3))), (1, 1, (.k (.I 1))), (2, 1, (.k (.I 5))), (3, 1, (.k (.I 2))), (4, 1, (.k (.I 1))), (6, 1, (.k (.I 1)))], none⟩,
  ⟨(some 4), .bslice 23 7 [(.t 1), (.t 2), (.t 3)], none⟩,
  ⟨(some 0), .mv (.t 4), none⟩] false
abbrev c31_3 : AC := .seq c31_2 .ret
abbrev c31_4 : AC := .seq c31_1 c31_3
abbrev c31 : AC := c31_4
theorem code31 : fnCode Try.prog 31 = some (c31, [0], 5) := by kernel_rfl
/- coinage/specimen.Valid -/
abbrev c32_1 : AC := .reg [⟨(some 1), .box 23 (some 7) (.t 0), none⟩,
  ⟨(some 2), .mv (.k (.B false)), none⟩] false
abbrev c32_2 : AC := .reg [⟨(some 4), .fad 1 (.t 1), none⟩,
  ⟨(some 5), .ld none (.t 4), none⟩,
  ⟨(some 6), .call 52 [(.t 5), (.k (.I 1)), (.k (.I 999))], none⟩,
  ⟨(some 7), .mv (.t 6), none⟩,
  ⟨(some 8), .fad 2 (.t 1), (some (7, true))⟩,
  ⟨(some 9), .ld none (.t 8), (some (7, true))⟩,
  ⟨(some 10), .call 52 [(.t 9), (.k (.I 1)), (.k (.I 999))], (some (7, true))⟩,
  ⟨(some 11), .pick (.t 7) (.t 10) (.k (.B false)), none⟩,
  ⟨(some 12), .mv (.t 11), none⟩,
  ⟨(some 13), .fad 3 (.t 1), (some (12, true))⟩,
  ⟨(some 14), .ld none (.t 13), (some (12, true))⟩,
  ⟨(some 15), .call 52 [(.t 14), (.k (.I 1)), (.k (.I 9))], (some (12, true))⟩,
  ⟨(some 16), .pick (.t 12) (.t 15) (.k (.B false)), none⟩,
  ⟨(some 17), .mv (.t 16), none⟩,
  ⟨(some 18), .fad 4 (.t 1), (some (17, true))⟩,
  ⟨(some 19), .ld none (.t 18), (some (17, true))⟩,
  ⟨(some 20), .call 52 [(.t 19), (.k (.I 1)), (.k (.I 9))], (some (17, true))⟩,
  ⟨(some 21), .pick (.t 17) (.t 20) (.k (.B false)), none⟩,
  ⟨(some 3), .mv (.t 21), none⟩] false
abbrev c32_3 : AC := .reg [⟨(some 22), .mv (.t 3), none⟩,
  ⟨(some 23), .mv (.t 22), none⟩,
  ⟨(some 24), .fad 0 (.t 1), (some (23, true))⟩,
  ⟨(some 25), .ld none (.t 24), (some (23, true))⟩,
  ⟨(some 26), .call 52 [(.t 25), (.k (.I 1)), (.k (.I 9999))], (some (23, true))⟩,
  ⟨(some 27), .pick (.t 23) (.t 26) (.k (.B false)), none⟩,
  ⟨(some 28), .mv (.t 27), none⟩,
  ⟨(some 29), .fad 5 (.t 1), (some (28, true))⟩,
  ⟨(some 30), .ld none (.t 29), (some (28, true))⟩,
  ⟨(some 31), .call 52 [(.t 30), (.k (.I 0)), (.k (.I 11))], (some (28, true))⟩,
  ⟨(some 32), .pick (.t 28) (.t 31) (.k (.B false)), none⟩,
  ⟨(some 33), .mv (.t 32), none⟩,
  ⟨(some 34), .fad 6 (.t 1), (some (33, true))⟩,
  ⟨(some 35), .ld none (.t 34), (some (33, true))⟩,
  ⟨(some 36), .call 52 [(.t 35), (.k (.I 1)), (.k (.I 200000))], (some (33, true))⟩,
  ⟨(some 37), .pick (.t 33) (.t 36) (.k (.B false)), none⟩,
  ⟨(some 2), .mv (.t 37), none⟩] false
abbrev c32_4 : AC := .seq c32_3 .ret
abbrev c32_5 : AC := .seq c32_2 c32_4
abbrev c32_6 : AC := .seq c32_1 c32_5
abbrev c32 : AC := c32_6
theorem code32 : fnCode Try.prog 32 = some (c32, [2], 38) := by kernel_rfl
/- coinage/wear.side -/
abbrev c33_1 : AC := .reg [⟨(some 2), .box 23 (some 7) (.t 0), none⟩,
  ⟨(some 4), .mv (.k (.I 0)), none⟩,
  ⟨(some 5), .mv (.k (.I 0)), none⟩] false
abbrev c33_2 : AC := .reg [⟨(some 6), .mv (.t 1), none⟩,
  ⟨(some 7), .bin .eql (.t 6) (.k (.I 0)), none⟩] false
abbrev c33_3 : AC := .regD [(⟨(some 8), .fad 1 (.t 2), none⟩, [2]),
  (⟨(some 9), .ld none (.t 8), none⟩, [8]),
  (⟨(some 10), .fad 3 (.t 2), none⟩, [2]),
  (⟨(some 11), .ld none (.t 10), none⟩, [10]),
  (⟨(some 4), .mv (.t 9), none⟩, [9]),
  (⟨(some 5), .mv (.t 11), none⟩, [11])]
abbrev c33_4 : AC := .seq c33_3 .ret
abbrev c33_5 : AC := .cond (.t 7) c33_4 .skip
abbrev c33_6 : AC := .seq c33_2 c33_5
abbrev c33_7 : AC := .regD [(⟨(some 12), .fad 2 (.t 2), none⟩, [2]),
  (⟨(some 13), .ld none (.t 12), none⟩, [12]),
  (⟨(some 14), .fad 4 (.t 2), none⟩, [2]),
  (⟨(some 15), .ld none (.t 14), none⟩, [14]),
  (⟨(some 4), .mv (.t 13), none⟩, [13]),
  (⟨(some 5), .mv (.t 15), none⟩, [15])]
abbrev c33_8 : AC := .seq c33_7 .ret
abbrev c33_9 : AC := .seq c33_6 c33_8
abbrev c33_10 : AC := .seq c33_1 c33_9
abbrev c33 : AC := c33_10
theorem code33 : fnCode Try.prog 33 = some (c33, [4, 5], 16) := by kernel_rfl
/- cmp.Compare[int] -/
abbrev c34_1 : AC := .reg [⟨(some 4), .mv (.k (.I 0)), none⟩] false
abbrev c34_2 : AC := .reg [⟨(some 7), .mv (.t 0), none⟩,
  ⟨(some 8), .call 53 [(.t 7)], none⟩,
  ⟨(some 5), .mv (.t 8), none⟩] false
abbrev c34_3 : AC := .reg [⟨(some 9), .mv (.t 1), none⟩,
  ⟨(some 10), .call 53 [(.t 9)], none⟩,
  ⟨(some 6), .mv (.t 10), none⟩] false
abbrev c34_4 : AC := .reg [⟨(some 11), .mv (.t 5), none⟩] false
abbrev c34_5 : AC := .reg [⟨(some 12), .mv (.t 6), none⟩] false
abbrev c34_6 : AC := .reg [⟨(some 4), .mv (.k (.I 0)), none⟩] false
abbrev c34_7 : AC := .seq c34_6 .ret
abbrev c34_8 : AC := .cond (.t 12) c34_7 .skip
abbrev c34_9 : AC := .seq c34_5 c34_8
abbrev c34_10 : AC := .reg [⟨(some 4), .mv (.k (.I (-1))), none⟩] false
abbrev c34_11 : AC := .seq c34_10 .ret
abbrev c34_12 : AC := .seq c34_9 c34_11
abbrev c34_13 : AC := .cond (.t 11) c34_12 .skip
abbrev c34_14 : AC := .seq c34_4 c34_13
abbrev c34_15 : AC := .reg [⟨(some 13), .mv (.t 6), none⟩] false
abbrev c34_16 : AC := .reg [⟨(some 4), .mv (.k (.I 1)), none⟩] false
abbrev c34_17 : AC := .seq c34_16 .ret
abbrev c34_18 : AC := .cond (.t 13) c34_17 .skip
abbrev c34_19 : AC := .seq c34_15 c34_18
abbrev c34_20 : AC := .reg [⟨(some 14), .mv (.t 0), none⟩,
  ⟨(some 15), .mv (.t 1), none⟩,
  ⟨(some 16), .bin .lss (.t 14) (.t 15), none⟩] false
abbrev c34_21 : AC := .reg [⟨(some 4), .mv (.k (.I (-1))), none⟩] false
abbrev c34_22 : AC := .seq c34_21 .ret
abbrev c34_23 : AC := .cond (.t 16) c34_22 .skip
abbrev c34_24 : AC := .seq c34_20 c34_23
abbrev c34_25 : AC := .reg [⟨(some 17), .mv (.t 0), none⟩,
  ⟨(some 18), .mv (.t 1), none⟩,
  ⟨(some 19), .bin .gtr (.t 17) (.t 18), none⟩] false
abbrev c34_26 : AC := .reg [⟨(some 4), .mv (.k (.I 1)), none⟩] false
abbrev c34_27 : AC := .seq c34_26 .ret
abbrev c34_28 : AC := .cond (.t 19) c34_27 .skip
abbrev c34_29 : AC := .seq c34_25 c34_28
abbrev c34_30 : AC := .reg [⟨(some 4), .mv (.k (.I 0)), none⟩] false
abbrev c34_31 : AC := .seq c34_30 .ret
abbrev c34_32 : AC := .seq c34_29 c34_31
abbrev c34_33 : AC := .seq c34_24 c34_32
abbrev c34_34 : AC := .seq c34_19 c34_33
abbrev c34_35 : AC := .seq c34_14 c34_34
abbrev c34_36 : AC := .seq c34_3 c34_35
abbrev c34_37 : AC := .seq c34_2 c34_36
abbrev c34_38 : AC := .seq c34_1 c34_37
abbrev c34 : AC := c34_38
theorem code34 : fnCode Try.prog 34 = some (c34, [4], 20) := by kernel_rfl
/- coinage/coinagebase.Specimen -/
abbrev c35_1 : AC := .reg [⟨(some 1), .box 23 (some 7) (.t 0), none⟩,
  ⟨(some 2), .mv (.k (.B false)), none⟩] false
abbrev c35_2 : AC := .reg [⟨(some 4), .fad 1 (.t 1), none⟩,
  ⟨(some 5), .ld none (.t 4), none⟩,
  ⟨(some 6), .call 54 [(.t 5)], none⟩,
  ⟨(some 7), .mv (.t 6), none⟩,
  ⟨(some 8), .fad 2 (.t 1), (some (7, true))⟩,
  ⟨(some 9), .ld none (.t 8), (some (7, true))⟩,
  ⟨(some 10), .call 54 [(.t 9)], (some (7, true))⟩,
  ⟨(some 11), .pick (.t 7) (.t 10) (.k (.B false)), none⟩,
  ⟨(some 12), .mv (.t 11), none⟩,
  ⟨(some 13), .fad 3 (.t 1), (some (12, true))⟩,
  ⟨(some 14), .ld none (.t 13), (some (12, true))⟩,
  ⟨(some 15), .call 55 [(.t 14), (.k (.I 1)), (.k (.I 9))], (some (12, true))⟩,
  ⟨(some 16), .pick (.t 12) (.t 15) (.k (.B false)), none⟩,
  ⟨(some 17), .mv (.t 16), none⟩,
  ⟨(some 18), .fad 4 (.t 1), (some (17, true))⟩,
  ⟨(some 19), .ld none (.t 18), (some (17, true))⟩,
  ⟨(some 20), .call 55 [(.t 19), (.k (.I 1)), (.k (.I 9))], (some (17, true))⟩,
  ⟨(some 21), .pick (.t 17) (.t 20) (.k (.B false)), none⟩,
  ⟨(some 3), .mv (.t 21), none⟩] false
abbrev c35_3 : AC := .reg [⟨(some 22), .fad 0 (.t 1), none⟩,
  ⟨(some 23), .ld none (.t 22), none⟩,
  ⟨(some 24), .call 56 [(.t 23)], none⟩,
  ⟨(some 25), .mv (.t 24), none⟩,
  ⟨(some 26), .mv (.t 3), (some (25, true))⟩,
  ⟨(some 27), .pick (.t 25) (.t 26) (.k (.B false)), none⟩,
  ⟨(some 28), .mv (.t 27), none⟩,
  ⟨(some 29), .fad 5 (.t 1), (some (28, true))⟩,
  ⟨(some 30), .ld none (.t 29), (some (28, true))⟩,
  ⟨(some 31), .call 55 [(.t 30), (.k (.I 0)), (.k (.I 11))], (some (28, true))⟩,
  ⟨(some 32), .pick (.t 28) (.t 31) (.k (.B false)), none⟩,
  ⟨(some 33), .mv (.t 32), none⟩,
  ⟨(some 34), .fad 6 (.t 1), (some (33, true))⟩,
  ⟨(some 35), .ld none (.t 34), (some (33, true))⟩,
  ⟨(some 36), .call 55 [(.t 35), (.k (.I 1)), (.k (.I 200000))], (some (33, true))⟩,
  ⟨(some 37), .pick (.t 33) (.t 36) (.k (.B false)), none⟩,
  ⟨(some 2), .mv (.t 37), none⟩] false
abbrev c35_4 : AC := .seq c35_3 .ret
abbrev c35_5 : AC := .seq c35_2 c35_4
abbrev c35_6 : AC := .seq c35_1 c35_5
abbrev c35 : AC := c35_6
theorem code35 : fnCode Try.prog 35 = some (c35, [2], 38) := by kernel_rfl
/- coinage/coinageref21.before -/
abbrev c36_1 : AC := .reg [⟨(some 3), .box 23 (some 7) (.t 0), none⟩,
  ⟨(some 4), .box 23 (some 7) (.t 1), none⟩,
  ⟨(some 6), .mv (.k (.B false)), none⟩] false
abbrev c36_2 : AC := .reg [⟨(some 12), .ld (some 7) (.t 3), none⟩,
  ⟨(some 13), .mv (.t 2), none⟩,
  ⟨(some 14), .call 48 [(.t 12), (.t 13)], none⟩,
  ⟨(some 11), .mv (.t 14), none⟩,
  ⟨(some 15), .ext (.t 11) 0, none⟩,
  ⟨(some 16), .ext (.t 11) 1, none⟩,
  ⟨(some 7), .mv (.t 15), none⟩,
  ⟨(some 8), .mv (.t 16), none⟩] false
abbrev c36_3 : AC := .reg [⟨(some 18), .ld (some 7) (.t 4), none⟩,
  ⟨(some 19), .mv (.t 2), none⟩,
  ⟨(some 20), .call 48 [(.t 18), (.t 19)], none⟩,
  ⟨(some 17), .mv (.t 20), none⟩,
  ⟨(some 21), .ext (.t 17) 0, none⟩,
  ⟨(some 22), .ext (.t 17) 1, none⟩,
  ⟨(some 9), .mv (.t 21), none⟩,
  ⟨(some 10), .mv (.t 22), none⟩] false
abbrev c36_4 : AC := .reg [⟨(some 23), .mv (.t 7), none⟩,
  ⟨(some 24), .mv (.t 9), none⟩,
  ⟨(some 25), .bin .eql (.t 23) (.t 24), none⟩,
  ⟨(some 26), .mv (.t 25), none⟩,
  ⟨(some 27), .mv (.t 8), (some (26, true))⟩,
  ⟨(some 28), .mv (.t 10), (some (26, true))⟩,
  ⟨(some 29), .bin .lss (.t 27) (.t 28), (some (26, true))⟩,
  ⟨(some 30), .pick (.t 26) (.t 29) (.k (.B false)), none⟩,
  ⟨(some 6), .mv (.t 30), none⟩] false
abbrev c36_5 : AC := .seq c36_4 .ret
abbrev c36_6 : AC := .seq c36_3 c36_5
abbrev c36_7 : AC := .seq c36_2 c36_6
abbrev c36_8 : AC := .seq c36_1 c36_7
abbrev c36 : AC := c36_8
theorem code36 : fnCode Try.prog 36 = some (c36, [6], 31) := by kernel_rfl
/- coinage/specimen.Check -/
abbrev c37_1 : AC := .reg [⟨(some 2), .mv (.k (.I 0)), none⟩] false
abbrev c37_2 : AC := .reg [⟨(some 7), .mv (.t 0), none⟩,
  ⟨(some 8), .len (.t 7), none⟩,
  ⟨(some 9), .bin .gtr (.t 8) (.k (.I 64)), none⟩] false
abbrev c37_3 : AC := .reg [⟨(some 2), .mv (.k (.I 6)), none⟩] false
abbrev c37_4 : AC := .seq c37_3 .ret
abbrev c37_5 : AC := .cond (.t 9) c37_4 .skip
abbrev c37_6 : AC := .seq c37_2 c37_5
abbrev c37_7 : AC := .reg [⟨(some 10), .mkmap .i64, none⟩,
  ⟨(some 3), .mv (.t 10), none⟩] false
abbrev c37_8 : AC := .reg [⟨(some 4), .mv (.k (.B false)), none⟩] false
abbrev c37_9 : AC := .reg [⟨(some 11), .mv (.t 0), none⟩,
  ⟨(some 12), .len (.t 11), none⟩,
  ⟨(some 13), .mv (.k (.I 0)), none⟩] false
abbrev c37_10 : AC := .reg [⟨(some 14), .bin .lss (.t 13) (.t 12), none⟩] false
abbrev c37_11 : AC := .cond (.t 14) .skip (.exit 0)
abbrev c37_12 : AC := .reg [⟨(some 15), .iad 7 (.t 11) (.t 13), none⟩,
  ⟨(some 16), .ld (some 7) (.t 15), none⟩,
  ⟨(some 6), .alloc 23 [(.I 0), (.I 0), (.I 0), (.I 0), (.I 0), (.I 0), (.I 0)], none⟩,
  ⟨none, .st (some 7) (.t 6) (.t 16), none⟩] false
abbrev c37_13 : AC := .reg [⟨(some 17), .ld (some 7) (.t 6), none⟩,
  ⟨(some 18), .call 32 [(.t 17)], none⟩,
  ⟨(some 19), .not (.t 18), none⟩] false
abbrev c37_14 : AC := .reg [⟨(some 2), .mv (.k (.I 1)), none⟩] false
abbrev c37_15 : AC := .seq c37_14 .ret
abbrev c37_16 : AC := .cond (.t 19) c37_15 .skip
abbrev c37_17 : AC := .seq c37_13 c37_16
abbrev c37_18 : AC := .reg [⟨(some 20), .mv (.t 4), none⟩,
  ⟨(some 21), .mv (.t 20), none⟩,
  ⟨(some 22), .mv (.t 3), (some (21, false))⟩,
  ⟨(some 23), .fad 0 (.t 6), (some (21, false))⟩,
  ⟨(some 24), .ld none (.t 23), (some (21, false))⟩,
  ⟨(some 25), .look (.inl (.sc (.bool false))) false (.t 22) (.t 24), (some (21, false))⟩,
  ⟨(some 26), .pick (.t 21) (.k (.B true)) (.t 25), none⟩,
  ⟨(some 4), .mv (.t 26), none⟩] false
abbrev c37_19 : AC := .reg [⟨(some 27), .mv (.t 3), none⟩,
  ⟨(some 28), .fad 0 (.t 6), none⟩,
  ⟨(some 29), .ld none (.t 28), none⟩,
  ⟨none, .mset (.t 27) (.t 29) (.k (.B true)), none⟩] false
abbrev c37_20 : AC := .seq c37_18 c37_19
abbrev c37_21 : AC := .seq c37_17 c37_20
abbrev c37_22 : AC := .seq c37_12 c37_21
abbrev c37_23 : AC := .block 1 c37_22
abbrev c37_24 : AC := .reg [⟨(some 30), .bin .add (.t 13) (.k (.I 1)), none⟩,
  ⟨(some 13), .mv (.t 30), none⟩] false
abbrev c37_25 : AC := .seq c37_23 c37_24
abbrev c37_26 : AC := .seq c37_11 c37_25
abbrev c37_27 : AC := .seq c37_10 c37_26
abbrev c37_28 : AC := .loop c37_27
abbrev c37_29 : AC := .block 0 c37_28
abbrev c37_30 : AC := .seq c37_9 c37_29
abbrev c37_31 : AC := .reg [⟨(some 31), .mv (.t 4), none⟩] false
abbrev c37_32 : AC := .reg [⟨(some 2), .mv (.k (.I 8)), none⟩] false
abbrev c37_33 : AC := .seq c37_32 .ret
abbrev c37_34 : AC := .cond (.t 31) c37_33 .skip
abbrev c37_35 : AC := .seq c37_31 c37_34
abbrev c37_36 : AC := .reg [⟨(some 2), .mv (.k (.I 0)), none⟩] false
abbrev c37_37 : AC := .seq c37_36 .ret
abbrev c37_38 : AC := .seq c37_35 c37_37
abbrev c37_39 : AC := .seq c37_30 c37_38
abbrev c37_40 : AC := .seq c37_8 c37_39
abbrev c37_41 : AC := .seq c37_7 c37_40
abbrev c37_42 : AC := .seq c37_6 c37_41
abbrev c37_43 : AC := .seq c37_1 c37_42
abbrev c37 : AC := c37_43
theorem code37 : fnCode Try.prog 37 = some (c37, [2], 32) := by kernel_rfl
/- coinage/wear.arcs -/
abbrev c38_1 : AC := .reg [⟨(some 4), .mv (.k (.c .nil)), none⟩] false
abbrev c38_2 : AC := .reg [⟨(some 5), .mv (.k (.c .nil)), none⟩] false
abbrev c38_3 : AC := .reg [⟨(some 10), .mv (.t 0), none⟩,
  ⟨(some 11), .len (.t 10), none⟩,
  ⟨(some 12), .mv (.k (.I 0)), none⟩] false
abbrev c38_4 : AC := .reg [⟨(some 13), .bin .lss (.t 12) (.t 11), none⟩] false
abbrev c38_5 : AC := .cond (.t 13) .skip (.exit 0)
abbrev c38_6 : AC := .reg [⟨(some 14), .mv (.t 12), none⟩,
  ⟨(some 15), .iad 7 (.t 10) (.t 12), none⟩,
  ⟨(some 16), .ld (some 7) (.t 15), none⟩,
  ⟨(some 7), .alloc 23 [(.I 0), (.I 0), (.I 0), (.I 0), (.I 0), (.I 0), (.I 0)], none⟩,
  ⟨(some 6), .mv (.t 14), none⟩,
  ⟨none, .st (some 7) (.t 7) (.t 16), none⟩] false
abbrev c38_7 : AC := .reg [⟨(some 17), .mv (.t 0), none⟩,
  ⟨(some 18), .len (.t 17), none⟩,
  ⟨(some 19), .mv (.k (.I 0)), none⟩] false
abbrev c38_8 : AC := .reg [⟨(some 20), .bin .lss (.t 19) (.t 18), none⟩] false
abbrev c38_9 : AC := .cond (.t 20) .skip (.exit 2)
abbrev c38_10 : AC := .reg [⟨(some 21), .mv (.t 19), none⟩,
  ⟨(some 22), .iad 7 (.t 17) (.t 19), none⟩,
  ⟨(some 23), .ld (some 7) (.t 22), none⟩,
  ⟨(some 9), .alloc 23 [(.I 0), (.I 0), (.I 0), (.I 0), (.I 0), (.I 0), (.I 0)], none⟩,
  ⟨(some 8), .mv (.t 21), none⟩,
  ⟨none, .st (some 7) (.t 9) (.t 23), none⟩] false
abbrev c38_11 : AC := .reg [⟨(some 24), .mv (.t 1), none⟩,
  ⟨(some 25), .ld (some 7) (.t 7), none⟩,
  ⟨(some 26), .ld (some 7) (.t 9), none⟩,
  ⟨(some 27), .callv (.t 24) [(.t 25), (.t 26)], none⟩] false
abbrev c38_12 : AC := .reg [⟨(some 28), .mv (.t 5), none⟩,
  ⟨(some 29), .mv (.t 6), none⟩,
  ⟨(some 30), .mv (.t 8), none⟩,
  ⟨(some 31), .build [(.I 0), (.I 0)] [(0, 1, (.t 29)), (1, 1, (.t 30))], none⟩,
  ⟨(some 32), .bslice 35 2 [(.t 31)], none⟩,
  ⟨(some 33), .app 35 2 16 (.t 28) (.t 32), none⟩,
  ⟨(some 5), .mv (.t 33), none⟩] false
abbrev c38_13 : AC := .cond (.t 27) c38_12 .skip
abbrev c38_14 : AC := .seq c38_11 c38_13
abbrev c38_15 : AC := .seq c38_10 c38_14
abbrev c38_16 : AC := .block 3 c38_15
abbrev c38_17 : AC := .reg [⟨(some 34), .bin .add (.t 19) (.k (.I 1)), none⟩,
  ⟨(some 19), .mv (.t 34), none⟩] false
abbrev c38_18 : AC := .seq c38_16 c38_17
abbrev c38_19 : AC := .seq c38_9 c38_18
abbrev c38_20 : AC := .seq c38_8 c38_19
abbrev c38_21 : AC := .loop c38_20
abbrev c38_22 : AC := .block 2 c38_21
abbrev c38_23 : AC := .seq c38_7 c38_22
abbrev c38_24 : AC := .seq c38_6 c38_23
abbrev c38_25 : AC := .block 1 c38_24
abbrev c38_26 : AC := .reg [⟨(some 35), .bin .add (.t 12) (.k (.I 1)), none⟩,
  ⟨(some 12), .mv (.t 35), none⟩] false
abbrev c38_27 : AC := .seq c38_25 c38_26
abbrev c38_28 : AC := .seq c38_5 c38_27
abbrev c38_29 : AC := .seq c38_4 c38_28
abbrev c38_30 : AC := .loop c38_29
abbrev c38_31 : AC := .block 0 c38_30
abbrev c38_32 : AC := .seq c38_3 c38_31
abbrev c38_33 : AC := .reg [⟨(some 36), .mv (.t 5), none⟩,
  ⟨(some 4), .mv (.t 36), none⟩] false
abbrev c38_34 : AC := .seq c38_33 .ret
abbrev c38_35 : AC := .seq c38_32 c38_34
abbrev c38_36 : AC := .seq c38_2 c38_35
abbrev c38_37 : AC := .seq c38_1 c38_36
abbrev c38 : AC := c38_37
theorem code38 : fnCode Try.prog 38 = some (c38, [4], 37) := by kernel_rfl
/- coinage/wear.Before$1 -/
abbrev c39_1 : AC := .reg [⟨(some 3), .box 23 (some 7) (.t 0), none⟩,
  ⟨(some 4), .box 23 (some 7) (.t 1), none⟩,
  ⟨(some 5), .mv (.k (.B false)), none⟩] false
abbrev c39_2 : AC := .reg [⟨(some 6), .ld (some 7) (.t 3), none⟩,
  ⟨(some 7), .ld (some 7) (.t 4), none⟩,
  ⟨(some 8), .ld none (.t 2), none⟩,
  ⟨(some 9), .call 40 [(.t 6), (.t 7), (.t 8)], none⟩,
  ⟨(some 5), .mv (.t 9), none⟩] false
abbrev c39_3 : AC := .seq c39_2 .ret
abbrev c39_4 : AC := .seq c39_1 c39_3
abbrev c39 : AC := c39_4
theorem code39 : fnCode Try.prog 39 = some (c39, [5], 10) := by kernel_rfl
/- coinage/wear.before -/
abbrev c40_1 : AC := .reg [⟨(some 3), .box 23 (some 7) (.t 0), none⟩,
  ⟨(some 4), .box 23 (some 7) (.t 1), none⟩,
  ⟨(some 6), .mv (.k (.B false)), none⟩] false
abbrev c40_2 : AC := .reg [⟨(some 12), .ld (some 7) (.t 3), none⟩,
  ⟨(some 13), .mv (.t 2), none⟩,
  ⟨(some 14), .call 33 [(.t 12), (.t 13)], none⟩,
  ⟨(some 11), .mv (.t 14), none⟩,
  ⟨(some 15), .ext (.t 11) 0, none⟩,
  ⟨(some 16), .ext (.t 11) 1, none⟩,
  ⟨(some 7), .mv (.t 15), none⟩,
  ⟨(some 8), .mv (.t 16), none⟩] false
abbrev c40_3 : AC := .reg [⟨(some 18), .ld (some 7) (.t 4), none⟩,
  ⟨(some 19), .mv (.t 2), none⟩,
  ⟨(some 20), .call 33 [(.t 18), (.t 19)], none⟩,
  ⟨(some 17), .mv (.t 20), none⟩,
  ⟨(some 21), .ext (.t 17) 0, none⟩,
  ⟨(some 22), .ext (.t 17) 1, none⟩,
  ⟨(some 9), .mv (.t 21), none⟩,
  ⟨(some 10), .mv (.t 22), none⟩] false
abbrev c40_4 : AC := .reg [⟨(some 23), .mv (.t 7), none⟩,
  ⟨(some 24), .mv (.t 9), none⟩,
  ⟨(some 25), .bin .eql (.t 23) (.t 24), none⟩,
  ⟨(some 26), .mv (.t 25), none⟩,
  ⟨(some 27), .mv (.t 8), (some (26, true))⟩,
  ⟨(some 28), .mv (.t 10), (some (26, true))⟩,
  ⟨(some 29), .bin .lss (.t 27) (.t 28), (some (26, true))⟩,
  ⟨(some 30), .pick (.t 26) (.t 29) (.k (.B false)), none⟩,
  ⟨(some 6), .mv (.t 30), none⟩] false
abbrev c40_5 : AC := .seq c40_4 .ret
abbrev c40_6 : AC := .seq c40_3 c40_5
abbrev c40_7 : AC := .seq c40_2 c40_6
abbrev c40_8 : AC := .seq c40_1 c40_7
abbrev c40 : AC := c40_8
theorem code40 : fnCode Try.prog 40 = some (c40, [6], 31) := by kernel_rfl
/- coinage/wear.Arcs$1 -/
abbrev c41_1 : AC := .reg [⟨(some 2), .box 23 (some 7) (.t 0), none⟩,
  ⟨(some 3), .box 23 (some 7) (.t 1), none⟩,
  ⟨(some 4), .mv (.k (.B false)), none⟩] false
abbrev c41_2 : AC := .reg [⟨(some 5), .ld (some 7) (.t 2), none⟩,
  ⟨(some 6), .ld (some 7) (.t 3), none⟩,
  ⟨(some 7), .call 40 [(.t 5), (.t 6), (.k (.I 0))], none⟩,
  ⟨(some 8), .mv (.t 7), none⟩,
  ⟨(some 9), .ld (some 7) (.t 2), (some (8, false))⟩,
  ⟨(some 10), .ld (some 7) (.t 3), (some (8, false))⟩,
  ⟨(some 11), .call 40 [(.t 9), (.t 10), (.k (.I 1))], (some (8, false))⟩,
  ⟨(some 12), .pick (.t 8) (.k (.B true)) (.t 11), none⟩,
  ⟨(some 4), .mv (.t 12), none⟩] false
abbrev c41_3 : AC := .seq c41_2 .ret
abbrev c41_4 : AC := .seq c41_1 c41_3
abbrev c41 : AC := c41_4
theorem code41 : fnCode Try.prog 41 = some (c41, [4], 13) := by kernel_rfl
/- coinage/wear.pairs -/
abbrev c42_1 : AC := .reg [⟨(some 4), .mv (.k (.c .nil)), none⟩] false
abbrev c42_2 : AC := .reg [⟨(some 5), .mv (.k (.c .nil)), none⟩] false
abbrev c42_3 : AC := .reg [⟨(some 9), .mv (.t 0), none⟩,
  ⟨(some 10), .len (.t 9), none⟩,
  ⟨(some 11), .mv (.k (.I 0)), none⟩] false
abbrev c42_4 : AC := .reg [⟨(some 12), .bin .lss (.t 11) (.t 10), none⟩] false
abbrev c42_5 : AC := .cond (.t 12) .skip (.exit 0)
abbrev c42_6 : AC := .reg [⟨(some 13), .mv (.t 11), none⟩,
  ⟨(some 14), .iad 7 (.t 9) (.t 11), none⟩,
  ⟨(some 15), .ld (some 7) (.t 14), none⟩,
  ⟨(some 7), .alloc 23 [(.I 0), (.I 0), (.I 0), (.I 0), (.I 0), (.I 0), (.I 0)], none⟩,
  ⟨(some 6), .mv (.t 13), none⟩,
  ⟨none, .st (some 7) (.t 7) (.t 15), none⟩] false
abbrev c42_7 : AC := .reg [⟨(some 16), .mv (.t 6), none⟩,
  ⟨(some 17), .bin .add (.t 16) (.k (.I 1)), none⟩,
  ⟨(some 8), .mv (.t 17), none⟩] false
abbrev c42_8 : AC := .reg [⟨(some 18), .mv (.t 8), none⟩,
  ⟨(some 19), .mv (.t 0), none⟩,
  ⟨(some 20), .len (.t 19), none⟩,
  ⟨(some 21), .bin .lss (.t 18) (.t 20), none⟩] false
abbrev c42_9 : AC := .cond (.t 21) .skip (.exit 2)
abbrev c42_10 : AC := .seq c42_8 c42_9
abbrev c42_11 : AC := .regD [(⟨(some 24), .mv (.t 1), none⟩, [1]),
  (⟨(some 25), .ld (some 7) (.t 7), none⟩, [7]),
  (⟨(some 26), .mv (.t 0), none⟩, [0]),
  (⟨(some 27), .mv (.t 8), none⟩, [8]),
  (⟨(some 28), .iad 7 (.t 26) (.t 27), none⟩, [26, 27]),
  (⟨(some 29), .ld (some 7) (.t 28), none⟩, [28]),
  (⟨(some 30), .callv (.t 24) [(.t 25), (.t 29)], none⟩, [24, 25, 29])]
abbrev c42_12 : AC := .reg [⟨(some 31), .mv (.t 5), none⟩,
  ⟨(some 32), .mv (.t 6), none⟩,
  ⟨(some 33), .mv (.t 8), none⟩,
  ⟨(some 34), .build [(.I 0), (.I 0)] [(0, 1, (.t 32)), (1, 1, (.t 33))], none⟩,
  ⟨(some 35), .bslice 45 2 [(.t 34)], none⟩,
  ⟨(some 36), .app 45 2 16 (.t 31) (.t 35), none⟩,
  ⟨(some 5), .mv (.t 36), none⟩] false
abbrev c42_13 : AC := .cond (.t 30) c42_12 .skip
abbrev c42_14 : AC := .seq c42_11 c42_13
abbrev c42_15 : AC := .block 3 c42_14
abbrev c42_16 : AC := .reg [⟨(some 22), .mv (.t 8), none⟩,
  ⟨(some 23), .bin .add (.t 22) (.k (.I 1)), none⟩,
  ⟨(some 8), .mv (.t 23), none⟩] false
abbrev c42_17 : AC := .seq c42_15 c42_16
abbrev c42_18 : AC := .seq c42_10 c42_17
abbrev c42_19 : AC := .loop c42_18
abbrev c42_20 : AC := .block 2 c42_19
abbrev c42_21 : AC := .seq c42_7 c42_20
abbrev c42_22 : AC := .seq c42_6 c42_21
abbrev c42_23 : AC := .block 1 c42_22
abbrev c42_24 : AC := .reg [⟨(some 37), .bin .add (.t 11) (.k (.I 1)), none⟩,
  ⟨(some 11), .mv (.t 37), none⟩] false
abbrev c42_25 : AC := .seq c42_23 c42_24
abbrev c42_26 : AC := .seq c42_5 c42_25
abbrev c42_27 : AC := .seq c42_4 c42_26
abbrev c42_28 : AC := .loop c42_27
abbrev c42_29 : AC := .block 0 c42_28
abbrev c42_30 : AC := .seq c42_3 c42_29
abbrev c42_31 : AC := .reg [⟨(some 38), .mv (.t 5), none⟩,
  ⟨(some 4), .mv (.t 38), none⟩] false
abbrev c42_32 : AC := .seq c42_31 .ret
abbrev c42_33 : AC := .seq c42_30 c42_32
abbrev c42_34 : AC := .seq c42_2 c42_33
abbrev c42_35 : AC := .seq c42_1 c42_34
abbrev c42 : AC := c42_35
theorem code42 : fnCode Try.prog 42 = some (c42, [4], 39) := by kernel_rfl
/- coinage/wear.Clashes$1 -/
abbrev c43_1 : AC := .reg [⟨(some 2), .box 23 (some 7) (.t 0), none⟩,
  ⟨(some 3), .box 23 (some 7) (.t 1), none⟩,
  ⟨(some 4), .mv (.k (.B false)), none⟩] false
abbrev c43_2 : AC := .reg [⟨(some 5), .ld (some 7) (.t 2), none⟩,
  ⟨(some 6), .ld (some 7) (.t 3), none⟩,
  ⟨(some 7), .call 40 [(.t 5), (.t 6), (.k (.I 0))], none⟩,
  ⟨(some 8), .mv (.t 7), none⟩,
  ⟨(some 9), .ld (some 7) (.t 3), (some (8, true))⟩,
  ⟨(some 10), .ld (some 7) (.t 2), (some (8, true))⟩,
  ⟨(some 11), .call 40 [(.t 9), (.t 10), (.k (.I 1))], (some (8, true))⟩,
  ⟨(some 12), .pick (.t 8) (.t 11) (.k (.B false)), none⟩,
  ⟨(some 13), .mv (.t 12), none⟩,
  ⟨(some 14), .ld (some 7) (.t 3), (some (13, false))⟩,
  ⟨(some 15), .ld (some 7) (.t 2), (some (13, false))⟩,
  ⟨(some 16), .call 40 [(.t 14), (.t 15), (.k (.I 0))], (some (13, false))⟩,
  ⟨(some 17), .mv (.t 16), (some (13, false))⟩,
  ⟨(some 18), .ld (some 7) (.t 2), (some (17, true))⟩,
  ⟨(some 19), .ld (some 7) (.t 3), (some (17, true))⟩,
  ⟨(some 20), .call 40 [(.t 18), (.t 19), (.k (.I 1))], (some (17, true))⟩,
  ⟨(some 21), .pick (.t 17) (.t 20) (.k (.B false)), (some (13, false))⟩,
  ⟨(some 22), .pick (.t 13) (.k (.B true)) (.t 21), none⟩,
  ⟨(some 4), .mv (.t 22), none⟩] false
abbrev c43_3 : AC := .seq c43_2 .ret
abbrev c43_4 : AC := .seq c43_1 c43_3
abbrev c43 : AC := c43_4
theorem code43 : fnCode Try.prog 43 = some (c43, [4], 23) := by kernel_rfl
/- coinage/wear.Alike$1 -/
abbrev c44_1 : AC := .reg [⟨(some 2), .box 23 (some 7) (.t 0), none⟩,
  ⟨(some 3), .box 23 (some 7) (.t 1), none⟩,
  ⟨(some 4), .mv (.k (.B false)), none⟩] false
abbrev c44_2 : AC := .reg [⟨(some 5), .fad 1 (.t 2), none⟩,
  ⟨(some 6), .ld none (.t 5), none⟩,
  ⟨(some 7), .fad 1 (.t 3), none⟩,
  ⟨(some 8), .ld none (.t 7), none⟩,
  ⟨(some 9), .bin .eql (.t 6) (.t 8), none⟩,
  ⟨(some 10), .mv (.t 9), none⟩,
  ⟨(some 11), .fad 2 (.t 2), (some (10, true))⟩,
  ⟨(some 12), .ld none (.t 11), (some (10, true))⟩,
  ⟨(some 13), .fad 2 (.t 3), (some (10, true))⟩,
  ⟨(some 14), .ld none (.t 13), (some (10, true))⟩,
  ⟨(some 15), .bin .eql (.t 12) (.t 14), (some (10, true))⟩,
  ⟨(some 16), .pick (.t 10) (.t 15) (.k (.B false)), none⟩,
  ⟨(some 17), .mv (.t 16), none⟩,
  ⟨(some 18), .fad 3 (.t 2), (some (17, true))⟩,
  ⟨(some 19), .ld none (.t 18), (some (17, true))⟩,
  ⟨(some 20), .fad 3 (.t 3), (some (17, true))⟩,
  ⟨(some 21), .ld none (.t 20), (some (17, true))⟩,
  ⟨(some 22), .bin .eql (.t 19) (.t 21), (some (17, true))⟩,
  ⟨(some 23), .pick (.t 17) (.t 22) (.k (.B false)), none⟩,
  ⟨(some 24), .mv (.t 23), none⟩,
  ⟨(some 25), .fad 4 (.t 2), (some (24, true))⟩,
  ⟨(some 26), .ld none (.t 25), (some (24, true))⟩,
  ⟨(some 27), .fad 4 (.t 3), (some (24, true))⟩,
  ⟨(some 28), .ld none (.t 27), (some (24, true))⟩,
  ⟨(some 29), .bin .eql (.t 26) (.t 28), (some (24, true))⟩,
  ⟨(some 30), .pick (.t 24) (.t 29) (.k (.B false)), none⟩,
  ⟨(some 4), .mv (.t 30), none⟩] false
abbrev c44_3 : AC := .seq c44_2 .ret
abbrev c44_4 : AC := .seq c44_1 c44_3
abbrev c44 : AC := c44_4
theorem code44 : fnCode Try.prog 44 = some (c44, [4], 31) := by kernel_rfl
/- coinage/wear.states -/
abbrev c45_1 : AC := .reg [⟨(some 3), .box 47 (some 2) (.t 1), none⟩,
  ⟨(some 4), .mv (.k (.c .nil)), none⟩] false
abbrev c45_2 : AC := .reg [⟨(some 5), .mv (.k (.c .nil)), none⟩] false
abbrev c45_3 : AC := .reg [⟨(some 10), .mv (.t 0), none⟩,
  ⟨(some 11), .len (.t 10), none⟩,
  ⟨(some 12), .mv (.k (.I 0)), none⟩] false
abbrev c45_4 : AC := .reg [⟨(some 13), .bin .lss (.t 12) (.t 11), none⟩] false
abbrev c45_5 : AC := .cond (.t 13) .skip (.exit 0)
abbrev c45_6 : AC := .reg [⟨(some 14), .iad 7 (.t 10) (.t 12), none⟩,
  ⟨(some 15), .ld (some 7) (.t 14), none⟩,
  ⟨(some 7), .alloc 23 [(.I 0), (.I 0), (.I 0), (.I 0), (.I 0), (.I 0), (.I 0)], none⟩,
  ⟨none, .st (some 7) (.t 7) (.t 15), none⟩] false
abbrev c45_7 : AC := .reg [⟨(some 17), .ld (some 7) (.t 7), none⟩,
  ⟨(some 18), .fad 0 (.t 3), none⟩,
  ⟨(some 19), .ld none (.t 18), none⟩,
  ⟨(some 20), .call 33 [(.t 17), (.t 19)], none⟩,
  ⟨(some 16), .mv (.t 20), none⟩,
  ⟨(some 21), .ext (.t 16) 0, none⟩,
  ⟨(some 22), .ext (.t 16) 1, none⟩,
  ⟨(some 8), .mv (.t 21), none⟩,
  ⟨(some 9), .mv (.t 22), none⟩] false
abbrev c45_8 : AC := .reg [⟨(some 23), .mv (.t 8), none⟩,
  ⟨(some 24), .fad 1 (.t 3), none⟩,
  ⟨(some 25), .ld none (.t 24), none⟩,
  ⟨(some 26), .bin .eql (.t 23) (.t 25), none⟩] false
abbrev c45_9 : AC := .reg [⟨(some 27), .mv (.t 5), none⟩,
  ⟨(some 28), .mv (.t 9), none⟩,
  ⟨(some 29), .bslice 3 1 [(.t 28)], none⟩,
  ⟨(some 30), .app 3 1 8 (.t 27) (.t 29), none⟩,
  ⟨(some 5), .mv (.t 30), none⟩] false
abbrev c45_10 : AC := .cond (.t 26) c45_9 .skip
abbrev c45_11 : AC := .seq c45_8 c45_10
abbrev c45_12 : AC := .seq c45_7 c45_11
abbrev c45_13 : AC := .seq c45_6 c45_12
abbrev c45_14 : AC := .block 1 c45_13
abbrev c45_15 : AC := .reg [⟨(some 31), .bin .add (.t 12) (.k (.I 1)), none⟩,
  ⟨(some 12), .mv (.t 31), none⟩] false
abbrev c45_16 : AC := .seq c45_14 c45_15
abbrev c45_17 : AC := .seq c45_5 c45_16
abbrev c45_18 : AC := .seq c45_4 c45_17
abbrev c45_19 : AC := .loop c45_18
abbrev c45_20 : AC := .block 0 c45_19
abbrev c45_21 : AC := .seq c45_3 c45_20
abbrev c45_22 : AC := .reg [⟨(some 32), .mv (.t 5), none⟩,
  ⟨(some 33), .call 57 [(.t 32)], none⟩] false
abbrev c45_23 : AC := .reg [⟨(some 34), .mv (.t 5), none⟩,
  ⟨(some 35), .call 58 [(.t 34)], none⟩,
  ⟨(some 4), .mv (.t 35), none⟩] false
abbrev c45_24 : AC := .seq c45_23 .ret
abbrev c45_25 : AC := .seq c45_22 c45_24
abbrev c45_26 : AC := .seq c45_21 c45_25
abbrev c45_27 : AC := .seq c45_2 c45_26
abbrev c45_28 : AC := .seq c45_1 c45_27
abbrev c45 : AC := c45_28
theorem code45 : fnCode Try.prog 45 = some (c45, [4], 36) := by kernel_rfl
/- coinage/coinageref21.Same -/
abbrev c46_1 : AC := .reg [⟨(some 2), .box 23 (some 7) (.t 0), none⟩,
  ⟨(some 3), .box 23 (some 7) (.t 1), none⟩,
  ⟨(some 4), .mv (.k (.B false)), none⟩] false
abbrev c46_2 : AC := .reg [⟨(some 5), .fad 1 (.t 2), none⟩,
  ⟨(some 6), .ld none (.t 5), none⟩,
  ⟨(some 7), .fad 1 (.t 3), none⟩,
  ⟨(some 8), .ld none (.t 7), none⟩,
  ⟨(some 9), .bin .eql (.t 6) (.t 8), none⟩,
  ⟨(some 10), .mv (.t 9), none⟩,
  ⟨(some 11), .fad 2 (.t 2), (some (10, true))⟩,
  ⟨(some 12), .ld none (.t 11), (some (10, true))⟩,
  ⟨(some 13), .fad 2 (.t 3), (some (10, true))⟩,
  ⟨(some 14), .ld none (.t 13), (some (10, true))⟩,
  ⟨(some 15), .bin .eql (.t 12) (.t 14), (some (10, true))⟩,
  ⟨(some 16), .pick (.t 10) (.t 15) (.k (.B false)), none⟩,
  ⟨(some 17), .mv (.t 16), none⟩,
  ⟨(some 18), .fad 3 (.t 2), (some (17, true))⟩,
  ⟨(some 19), .ld none (.t 18), (some (17, true))⟩,
  ⟨(some 20), .fad 3 (.t 3), (some (17, true))⟩,
  ⟨(some 21), .ld none (.t 20), (some (17, true))⟩,
  ⟨(some 22), .bin .eql (.t 19) (.t 21), (some (17, true))⟩,
  ⟨(some 23), .pick (.t 17) (.t 22) (.k (.B false)), none⟩,
  ⟨(some 24), .mv (.t 23), none⟩,
  ⟨(some 25), .fad 4 (.t 2), (some (24, true))⟩,
  ⟨(some 26), .ld none (.t 25), (some (24, true))⟩,
  ⟨(some 27), .fad 4 (.t 3), (some (24, true))⟩,
  ⟨(some 28), .ld none (.t 27), (some (24, true))⟩,
  ⟨(some 29), .bin .eql (.t 26) (.t 28), (some (24, true))⟩,
  ⟨(some 30), .pick (.t 24) (.t 29) (.k (.B false)), none⟩,
  ⟨(some 4), .mv (.t 30), none⟩] false
abbrev c46_3 : AC := .seq c46_2 .ret
abbrev c46_4 : AC := .seq c46_1 c46_3
abbrev c46 : AC := c46_4
theorem code46 : fnCode Try.prog 46 = some (c46, [4], 31) := by kernel_rfl
/- coinage/coinagebase.Die -/
abbrev c47_1 : AC := .reg [⟨(some 1), .box 47 (some 2) (.t 0), none⟩,
  ⟨(some 2), .mv (.k (.B false)), none⟩] false
abbrev c47_2 : AC := .reg [⟨(some 3), .fad 0 (.t 1), none⟩,
  ⟨(some 4), .ld none (.t 3), none⟩,
  ⟨(some 5), .call 55 [(.t 4), (.k (.I 0)), (.k (.I 1))], none⟩,
  ⟨(some 6), .mv (.t 5), none⟩,
  ⟨(some 7), .fad 1 (.t 1), (some (6, true))⟩,
  ⟨(some 8), .ld none (.t 7), (some (6, true))⟩,
  ⟨(some 9), .call 54 [(.t 8)], (some (6, true))⟩,
  ⟨(some 10), .pick (.t 6) (.t 9) (.k (.B false)), none⟩,
  ⟨(some 2), .mv (.t 10), none⟩] false
abbrev c47_3 : AC := .seq c47_2 .ret
abbrev c47_4 : AC := .seq c47_1 c47_3
abbrev c47 : AC := c47_4
theorem code47 : fnCode Try.prog 47 = some (c47, [2], 11) := by kernel_rfl
/- coinage/coinageref21.die -/
abbrev c48_1 : AC := .reg [⟨(some 2), .box 23 (some 7) (.t 0), none⟩,
  ⟨(some 4), .mv (.k (.I 0)), none⟩,
  ⟨(some 5), .mv (.k (.I 0)), none⟩] false
abbrev c48_2 : AC := .reg [⟨(some 6), .mv (.t 1), none⟩,
  ⟨(some 7), .bin .eql (.t 6) (.k (.I 0)), none⟩] false
abbrev c48_3 : AC := .regD [(⟨(some 8), .fad 1 (.t 2), none⟩, [2]),
  (⟨(some 9), .ld none (.t 8), none⟩, [8]),
  (⟨(some 10), .fad 3 (.t 2), none⟩, [2]),
  (⟨(some 11), .ld none (.t 10), none⟩, [10]),
  (⟨(some 4), .mv (.t 9), none⟩, [9]),
  (⟨(some 5), .mv (.t 11), none⟩, [11])]
abbrev c48_4 : AC := .seq c48_3 .ret
abbrev c48_5 : AC := .cond (.t 7) c48_4 .skip
abbrev c48_6 : AC := .seq c48_2 c48_5
abbrev c48_7 : AC := .regD [(⟨(some 12), .fad 2 (.t 2), none⟩, [2]),
  (⟨(some 13), .ld none (.t 12), none⟩, [12]),
  (⟨(some 14), .fad 4 (.t 2), none⟩, [2]),
  (⟨(some 15), .ld none (.t 14), none⟩, [14]),
  (⟨(some 4), .mv (.t 13), none⟩, [13]),
  (⟨(some 5), .mv (.t 15), none⟩, [15])]
abbrev c48_8 : AC := .seq c48_7 .ret
abbrev c48_9 : AC := .seq c48_6 c48_8
abbrev c48_10 : AC := .seq c48_1 c48_9
abbrev c48 : AC := c48_10
theorem code48 : fnCode Try.prog 48 = some (c48, [4, 5], 16) := by kernel_rfl
/- coinage/coinagebase.Has -/
abbrev c49_1 : AC := .reg [⟨(some 4), .mv (.k (.B false)), none⟩] false
abbrev c49_2 : AC := .reg [⟨(some 5), .mv (.k (.I 0)), none⟩] false
abbrev c49_3 : AC := .reg [⟨(some 6), .mv (.t 5), none⟩,
  ⟨(some 7), .mv (.t 0), none⟩,
  ⟨(some 8), .len (.t 7), none⟩,
  ⟨(some 9), .bin .lss (.t 6) (.t 8), none⟩] false
abbrev c49_4 : AC := .cond (.t 9) .skip (.exit 0)
abbrev c49_5 : AC := .seq c49_3 c49_4
abbrev c49_6 : AC := .reg [⟨(some 12), .mv (.t 0), none⟩,
  ⟨(some 13), .mv (.t 5), none⟩,
  ⟨(some 14), .iad 1 (.t 12) (.t 13), none⟩,
  ⟨(some 15), .ld none (.t 14), none⟩,
  ⟨(some 16), .mv (.t 1), none⟩,
  ⟨(some 17), .bin .eql (.t 15) (.t 16), none⟩] false
abbrev c49_7 : AC := .reg [⟨(some 4), .mv (.k (.B true)), none⟩] false
abbrev c49_8 : AC := .seq c49_7 .ret
abbrev c49_9 : AC := .cond (.t 17) c49_8 .skip
abbrev c49_10 : AC := .seq c49_6 c49_9
abbrev c49_11 : AC := .block 1 c49_10
abbrev c49_12 : AC := .reg [⟨(some 10), .mv (.t 5), none⟩,
  ⟨(some 11), .bin .add (.t 10) (.k (.I 1)), none⟩,
  ⟨(some 5), .mv (.t 11), none⟩] false
abbrev c49_13 : AC := .seq c49_11 c49_12
abbrev c49_14 : AC := .seq c49_5 c49_13
abbrev c49_15 : AC := .loop c49_14
abbrev c49_16 : AC := .block 0 c49_15
abbrev c49_17 : AC := .seq c49_2 c49_16
abbrev c49_18 : AC := .reg [⟨(some 4), .mv (.k (.B false)), none⟩] false
abbrev c49_19 : AC := .seq c49_18 .ret
abbrev c49_20 : AC := .seq c49_17 c49_19
abbrev c49_21 : AC := .seq c49_1 c49_20
abbrev c49 : AC := c49_21
theorem code49 : fnCode Try.prog 49 = some (c49, [4], 18) := by kernel_rfl
/- slices.Index[[]int,int] -/
abbrev c51_1 : AC := .reg [⟨(some 4), .mv (.k (.I 0)), none⟩] false
abbrev c51_2 : AC := .reg [⟨(some 6), .mv (.t 0), none⟩,
  ⟨(some 7), .len (.t 6), none⟩,
  ⟨(some 8), .mv (.k (.I 0)), none⟩] false
abbrev c51_3 : AC := .reg [⟨(some 9), .bin .lss (.t 8) (.t 7), none⟩] false
abbrev c51_4 : AC := .cond (.t 9) .skip (.exit 0)
abbrev c51_5 : AC := .reg [⟨(some 10), .mv (.t 8), none⟩,
  ⟨(some 5), .mv (.t 10), none⟩] false
abbrev c51_6 : AC := .reg [⟨(some 11), .mv (.t 1), none⟩,
  ⟨(some 12), .mv (.t 0), none⟩,
  ⟨(some 13), .mv (.t 5), none⟩,
  ⟨(some 14), .iad 1 (.t 12) (.t 13), none⟩,
  ⟨(some 15), .ld none (.t 14), none⟩,
  ⟨(some 16), .bin .eql (.t 11) (.t 15), none⟩] false
abbrev c51_7 : AC := .reg [⟨(some 17), .mv (.t 5), none⟩,
  ⟨(some 4), .mv (.t 17), none⟩] false
abbrev c51_8 : AC := .seq c51_7 .ret
abbrev c51_9 : AC := .cond (.t 16) c51_8 .skip
abbrev c51_10 : AC := .seq c51_6 c51_9
abbrev c51_11 : AC := .seq c51_5 c51_10
abbrev c51_12 : AC := .block 1 c51_11
abbrev c51_13 : AC := .reg [⟨(some 18), .bin .add (.t 8) (.k (.I 1)), none⟩,
  ⟨(some 8), .mv (.t 18), none⟩] false
abbrev c51_14 : AC := .seq c51_12 c51_13
abbrev c51_15 : AC := .seq c51_4 c51_14
abbrev c51_16 : AC := .seq c51_3 c51_15
abbrev c51_17 : AC := .loop c51_16
abbrev c51_18 : AC := .block 0 c51_17
abbrev c51_19 : AC := .seq c51_2 c51_18
abbrev c51_20 : AC := .reg [⟨(some 4), .mv (.k (.I (-1))), none⟩] false
abbrev c51_21 : AC := .seq c51_20 .ret
abbrev c51_22 : AC := .seq c51_19 c51_21
abbrev c51_23 : AC := .seq c51_1 c51_22
abbrev c51 : AC := c51_23
theorem code51 : fnCode Try.prog 51 = some (c51, [4], 19) := by kernel_rfl
/- coinage/specimen.in -/
abbrev c52_1 : AC := .reg [⟨(some 6), .mv (.k (.B false)), none⟩] false
abbrev c52_2 : AC := .reg [⟨(some 7), .mv (.t 0), none⟩,
  ⟨(some 8), .mv (.t 1), none⟩,
  ⟨(some 9), .bin .geq (.t 7) (.t 8), none⟩,
  ⟨(some 10), .mv (.t 9), none⟩,
  ⟨(some 11), .mv (.t 0), (some (10, true))⟩,
  ⟨(some 12), .mv (.t 2), (some (10, true))⟩,
  ⟨(some 13), .bin .leq (.t 11) (.t 12), (some (10, true))⟩,
  ⟨(some 14), .pick (.t 10) (.t 13) (.k (.B false)), none⟩,
  ⟨(some 6), .mv (.t 14), none⟩] false
abbrev c52_3 : AC := .seq c52_2 .ret
abbrev c52_4 : AC := .seq c52_1 c52_3
abbrev c52 : AC := c52_4
theorem code52 : fnCode Try.prog 52 = some (c52, [6], 15) := by kernel_rfl
/- cmp.isNaN[int] -/
abbrev c53_1 : AC := .reg [⟨(some 2), .mv (.k (.B false)), none⟩] false
abbrev c53_2 : AC := .reg [⟨(some 3), .mv (.t 0), none⟩,
  ⟨(some 4), .mv (.t 0), none⟩,
  ⟨(some 5), .bin .neq (.t 3) (.t 4), none⟩,
  ⟨(some 2), .mv (.t 5), none⟩] false
abbrev c53_3 : AC := .seq c53_2 .ret
abbrev c53_4 : AC := .seq c53_1 c53_3
abbrev c53 : AC := c53_4
theorem code53 : fnCode Try.prog 53 = some (c53, [2], 6) := by kernel_rfl
/- coinage/coinagebase.Number -/
abbrev c54_1 : AC := .reg [⟨(some 2), .mv (.k (.B false)), none⟩] false
abbrev c54_2 : AC := .reg [⟨(some 3), .mv (.t 0), none⟩,
  ⟨(some 4), .call 55 [(.t 3), (.k (.I 1)), (.k (.I 999))], none⟩,
  ⟨(some 2), .mv (.t 4), none⟩] false
abbrev c54_3 : AC := .seq c54_2 .ret
abbrev c54_4 : AC := .seq c54_1 c54_3
abbrev c54 : AC := c54_4
theorem code54 : fnCode Try.prog 54 = some (c54, [2], 5) := by kernel_rfl
/- coinage/coinagebase.In -/
abbrev c55_1 : AC := .reg [⟨(some 6), .mv (.k (.B false)), none⟩] false
abbrev c55_2 : AC := .reg [⟨(some 7), .mv (.t 0), none⟩,
  ⟨(some 8), .mv (.t 1), none⟩,
  ⟨(some 9), .bin .geq (.t 7) (.t 8), none⟩,
  ⟨(some 10), .mv (.t 9), none⟩,
  ⟨(some 11), .mv (.t 0), (some (10, true))⟩,
  ⟨(some 12), .mv (.t 2), (some (10, true))⟩,
  ⟨(some 13), .bin .leq (.t 11) (.t 12), (some (10, true))⟩,
  ⟨(some 14), .pick (.t 10) (.t 13) (.k (.B false)), none⟩,
  ⟨(some 6), .mv (.t 14), none⟩] false
abbrev c55_3 : AC := .seq c55_2 .ret
abbrev c55_4 : AC := .seq c55_1 c55_3
abbrev c55 : AC := c55_4
theorem code55 : fnCode Try.prog 55 = some (c55, [6], 15) := by kernel_rfl
/- coinage/coinagebase.Id -/
abbrev c56_1 : AC := .reg [⟨(some 2), .mv (.k (.B false)), none⟩] false
abbrev c56_2 : AC := .reg [⟨(some 3), .mv (.t 0), none⟩,
  ⟨(some 4), .call 55 [(.t 3), (.k (.I 1)), (.k (.I 9999))], none⟩,
  ⟨(some 2), .mv (.t 4), none⟩] false
abbrev c56_3 : AC := .seq c56_2 .ret
abbrev c56_4 : AC := .seq c56_1 c56_3
abbrev c56 : AC := c56_4
theorem code56 : fnCode Try.prog 56 = some (c56, [2], 5) := by kernel_rfl

end Go.Proofs.Ytdbkhiobchkjjaa

