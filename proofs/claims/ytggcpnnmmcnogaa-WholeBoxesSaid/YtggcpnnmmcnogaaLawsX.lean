/-
  Dies whose years of use are known need as many boxes as were in use in one year at most: so many colors are enough for the graph of overlaps, and so large is its largest clique.
-/
import Derived.Test.YtggcpnnmmcnogaaWalkF
import Derived.Test.YtggcpnnmmcnogaaAlD
import Derived.Test.YtggcpnnmmcnogaaRows
set_option linter.unusedVariables false
set_option linter.unusedSimpArgs false
-- P p_b.txt
open Go Go.AL Go.RowKit
namespace Go.Proofs.Ytggcpnnmmcnogaa
set_option maxRecDepth 20000
/- coinage/coinagetop.WholeBoxes -/
abbrev c3_1 : AC := .reg [⟨(some 2), .mv (.k (.B false)), none⟩] false
abbrev c3_2 : AC := .reg [⟨(some 20), .call 4 [], none⟩,
  ⟨(some 21), .not (.t 20), none⟩,
  ⟨(some 22), .mv (.t 21), none⟩,
  ⟨(some 23), .mv (.t 0), (some (22, false))⟩,
  ⟨(some 24), .len (.t 23), (some (22, false))⟩,
  ⟨(some 25), .bin .gtr (.t 24) (.k (.I 9)), (some (22, false))⟩,
  ⟨(some 26), .pick (.t 22) (.k (.B true)) (.t 25), none⟩] false
abbrev c3_3 : AC := .reg [⟨(some 27), .call 4 [], none⟩,
  ⟨(some 2), .mv (.t 27), none⟩] false
abbrev c3_4 : AC := .seq c3_3 .ret
abbrev c3_5 : AC := .cond (.t 26) c3_4 .skip
abbrev c3_6 : AC := .seq c3_2 c3_5
abbrev c3_7 : AC := .reg [⟨(some 29), .mv (.t 0), none⟩,
  ⟨(some 30), .call 5 [(.t 29)], none⟩,
  ⟨(some 28), .mv (.t 30), none⟩,
  ⟨(some 31), .ext (.t 28) 0, none⟩,
  ⟨(some 32), .ext (.t 28) 1, none⟩,
  ⟨(some 3), .mv (.t 31), none⟩,
  ⟨(some 4), .mv (.t 32), none⟩] false
abbrev c3_8 : AC := .reg [⟨(some 34), .mv (.t 0), none⟩,
  ⟨(some 35), .call 6 [(.t 34)], none⟩,
  ⟨(some 33), .mv (.t 35), none⟩,
  ⟨(some 36), .ext (.t 33) 0, none⟩,
  ⟨(some 37), .ext (.t 33) 1, none⟩,
  ⟨(some 5), .mv (.t 36), none⟩,
  ⟨(some 6), .mv (.t 37), none⟩] false
abbrev c3_9 : AC := .reg [⟨(some 38), .mv (.t 4), none⟩,
  ⟨(some 39), .bin .neq (.t 38) (.k (.I 0)), none⟩,
  ⟨(some 40), .mv (.t 39), none⟩,
  ⟨(some 41), .mv (.t 6), (some (40, false))⟩,
  ⟨(some 42), .bin .neq (.t 41) (.k (.I 0)), (some (40, false))⟩,
  ⟨(some 43), .pick (.t 40) (.k (.B true)) (.t 42), none⟩] false
abbrev c3_10 : AC := .reg [⟨(some 44), .mv (.t 4), none⟩,
  ⟨(some 45), .mv (.t 6), none⟩,
  ⟨(some 46), .bin .eql (.t 44) (.t 45), none⟩,
  ⟨(some 47), .mv (.t 46), none⟩,
  ⟨(some 48), .mv (.t 3), (some (47, true))⟩,
  ⟨(some 49), .len (.t 48), (some (47, true))⟩,
  ⟨(some 50), .bin .eql (.t 49) (.k (.I 0)), (some (47, true))⟩,
  ⟨(some 51), .pick (.t 47) (.t 50) (.k (.B false)), none⟩,
  ⟨(some 52), .mv (.t 51), none⟩,
  ⟨(some 53), .mv (.t 5), (some (52, true))⟩,
  ⟨(some 54), .bin .eql (.t 53) (.k (.I 0)), (some (52, true))⟩,
  ⟨(some 55), .pick (.t 52) (.t 54) (.k (.B false)), none⟩,
  ⟨(some 2), .mv (.t 55), none⟩] false
abbrev c3_11 : AC := .seq c3_10 .ret
abbrev c3_12 : AC := .cond (.t 43) c3_11 .skip
abbrev c3_13 : AC := .seq c3_9 c3_12
abbrev c3_14 : AC := .reg [⟨(some 57), .mv (.t 0), none⟩,
  ⟨(some 58), .len (.t 57), none⟩,
  ⟨(some 59), .mv (.t 3), none⟩,
  ⟨(some 60), .call 7 [(.t 58), (.t 59)], none⟩,
  ⟨(some 56), .mv (.t 60), none⟩,
  ⟨(some 61), .ext (.t 56) 0, none⟩,
  ⟨(some 62), .ext (.t 56) 1, none⟩,
  ⟨(some 7), .mv (.t 61), none⟩,
  ⟨(some 8), .mv (.t 62), none⟩] false
abbrev c3_15 : AC := .reg [⟨(some 64), .mv (.t 0), none⟩,
  ⟨(some 65), .len (.t 64), none⟩,
  ⟨(some 66), .mv (.t 3), none⟩,
  ⟨(some 67), .call 8 [(.t 65), (.t 66)], none⟩,
  ⟨(some 63), .mv (.t 67), none⟩,
  ⟨(some 68), .ext (.t 63) 0, none⟩,
  ⟨(some 69), .ext (.t 63) 1, none⟩,
  ⟨(some 9), .mv (.t 68), none⟩,
  ⟨(some 10), .mv (.t 69), none⟩] false
abbrev c3_16 : AC := .reg [⟨(some 70), .mv (.t 8), none⟩,
  ⟨(some 71), .bin .neq (.t 70) (.k (.I 0)), none⟩,
  ⟨(some 72), .mv (.t 71), none⟩,
  ⟨(some 73), .mv (.t 10), (some (72, false))⟩,
  ⟨(some 74), .bin .neq (.t 73) (.k (.I 0)), (some (72, false))⟩,
  ⟨(some 75), .pick (.t 72) (.k (.B true)) (.t 74), none⟩,
  ⟨(some 76), .mv (.t 75), none⟩,
  ⟨(some 77), .mv (.t 7), (some (76, false))⟩,
  ⟨(some 78), .mv (.t 5), (some (76, false))⟩,
  ⟨(some 79), .bin .neq (.t 77) (.t 78), (some (76, false))⟩,
  ⟨(some 80), .pick (.t 76) (.k (.B true)) (.t 79), none⟩,
  ⟨(some 81), .mv (.t 80), none⟩,
  ⟨(some 82), .mv (.t 9), (some (81, false))⟩,
  ⟨(some 83), .len (.t 82), (some (81, false))⟩,
  ⟨(some 84), .mv (.t 5), (some (81, false))⟩,
  ⟨(some 85), .bin .neq (.t 83) (.t 84), (some (81, false))⟩,
  ⟨(some 86), .pick (.t 81) (.k (.B true)) (.t 85), none⟩] false
abbrev c3_17 : AC := .reg [⟨(some 2), .mv (.k (.B false)), none⟩] false
abbrev c3_18 : AC := .seq c3_17 .ret
abbrev c3_19 : AC := .cond (.t 86) c3_18 .skip
abbrev c3_20 : AC := .seq c3_16 c3_19
abbrev c3_21 : AC := .reg [⟨(some 11), .mv (.k (.I 0)), none⟩] false
abbrev c3_22 : AC := .reg [⟨(some 12), .mv (.k (.I 0)), none⟩] false
abbrev c3_23 : AC := .reg [⟨(some 87), .mv (.t 12), none⟩,
  ⟨(some 88), .mv (.t 0), none⟩,
  ⟨(some 89), .len (.t 88), none⟩,
  ⟨(some 90), .bin .lss (.t 87) (.t 89), none⟩] false
abbrev c3_24 : AC := .cond (.t 90) .skip (.exit 0)
abbrev c3_25 : AC := .seq c3_23 c3_24
abbrev c3_26 : AC := .reg [⟨(some 93), .mv (.t 12), none⟩,
  ⟨(some 94), .bin .add (.t 93) (.k (.I 1)), none⟩,
  ⟨(some 13), .mv (.t 94), none⟩] false
abbrev c3_27 : AC := .reg [⟨(some 95), .mv (.t 13), none⟩,
  ⟨(some 96), .mv (.t 0), none⟩,
  ⟨(some 97), .len (.t 96), none⟩,
  ⟨(some 98), .bin .lss (.t 95) (.t 97), none⟩] false
abbrev c3_28 : AC := .cond (.t 98) .skip (.exit 2)
abbrev c3_29 : AC := .seq c3_27 c3_28
abbrev c3_30 : AC := .regD [(⟨(some 101), .mv (.t 0), none⟩, [0]),
  (⟨(some 102), .mv (.t 12), none⟩, [12]),
  (⟨(some 103), .iad 2 (.t 101) (.t 102), none⟩, [101, 102]),
  (⟨(some 104), .ld (some 2) (.t 103), none⟩, [103]),
  (⟨(some 105), .mv (.t 0), none⟩, [0]),
  (⟨(some 106), .mv (.t 13), none⟩, [13]),
  (⟨(some 107), .iad 2 (.t 105) (.t 106), none⟩, [105, 106]),
  (⟨(some 108), .ld (some 2) (.t 107), none⟩, [107]),
  (⟨(some 109), .call 9 [(.t 104), (.t 108)], none⟩, [104, 108]),
  (⟨(some 14), .mv (.t 109), none⟩, [109])]
abbrev c3_31 : AC := .reg [⟨(some 110), .mv (.t 11), none⟩,
  ⟨(some 111), .mv (.t 3), none⟩,
  ⟨(some 112), .len (.t 111), none⟩,
  ⟨(some 113), .bin .lss (.t 110) (.t 112), none⟩,
  ⟨(some 114), .mv (.t 113), none⟩,
  ⟨(some 115), .mv (.t 3), (some (114, true))⟩,
  ⟨(some 116), .mv (.t 11), (some (114, true))⟩,
  ⟨(some 117), .iad 2 (.t 115) (.t 116), (some (114, true))⟩,
  ⟨(some 118), .ld (some 2) (.t 117), (some (114, true))⟩,
  ⟨(some 119), .mv (.t 12), (some (114, true))⟩,
  ⟨(some 120), .mv (.t 13), (some (114, true))⟩,
  ⟨(some 121), .build [(.I 0), (.I 0)] [(0, 1, (.t 119)), (1, 1, (.t 120))], (some (114, true))⟩,
  ⟨(some 122), .eqs false [false, false] (.t 118) (.t 121), (some (114, true))⟩,
  ⟨(some 123), .pick (.t 114) (.t 122) (.k (.B false)), none⟩,
  ⟨(some 15), .mv (.t 123), none⟩] false
abbrev c3_32 : AC := .reg [⟨(some 124), .mv (.t 15), none⟩] false
abbrev c3_33 : AC := .reg [⟨(some 125), .mv (.t 11), none⟩,
  ⟨(some 126), .bin .add (.t 125) (.k (.I 1)), none⟩,
  ⟨(some 11), .mv (.t 126), none⟩] false
abbrev c3_34 : AC := .cond (.t 124) c3_33 .skip
abbrev c3_35 : AC := .seq c3_32 c3_34
abbrev c3_36 : AC := .reg [⟨(some 127), .mv (.t 15), none⟩,
  ⟨(some 128), .mv (.t 14), none⟩,
  ⟨(some 129), .bin .geq (.t 128) (.k (.I 3)), none⟩,
  ⟨(some 130), .mv (.t 129), none⟩,
  ⟨(some 131), .mv (.t 14), (some (130, true))⟩,
  ⟨(some 132), .bin .leq (.t 131) (.k (.I 11)), (some (130, true))⟩,
  ⟨(some 133), .pick (.t 130) (.t 132) (.k (.B false)), none⟩,
  ⟨(some 134), .beq true (.t 127) (.t 133), none⟩] false
abbrev c3_37 : AC := .reg [⟨(some 2), .mv (.k (.B false)), none⟩] false
abbrev c3_38 : AC := .seq c3_37 .ret
abbrev c3_39 : AC := .cond (.t 134) c3_38 .skip
abbrev c3_40 : AC := .seq c3_36 c3_39
abbrev c3_41 : AC := .seq c3_35 c3_40
abbrev c3_42 : AC := .seq c3_31 c3_41
abbrev c3_43 : AC := .seq c3_30 c3_42
abbrev c3_44 : AC := .block 3 c3_43
abbrev c3_45 : AC := .reg [⟨(some 99), .mv (.t 13), none⟩,
  ⟨(some 100), .bin .add (.t 99) (.k (.I 1)), none⟩,
  ⟨(some 13), .mv (.t 100), none⟩] false
abbrev c3_46 : AC := .seq c3_44 c3_45
abbrev c3_47 : AC := .seq c3_29 c3_46
abbrev c3_48 : AC := .loop c3_47
abbrev c3_49 : AC := .block 2 c3_48
abbrev c3_50 : AC := .seq c3_26 c3_49
abbrev c3_51 : AC := .block 1 c3_50
abbrev c3_52 : AC := .reg [⟨(some 91), .mv (.t 12), none⟩,
  ⟨(some 92), .bin .add (.t 91) (.k (.I 1)), none⟩,
  ⟨(some 12), .mv (.t 92), none⟩] false
abbrev c3_53 : AC := .seq c3_51 c3_52
abbrev c3_54 : AC := .seq c3_25 c3_53
abbrev c3_55 : AC := .loop c3_54
abbrev c3_56 : AC := .block 0 c3_55
abbrev c3_57 : AC := .seq c3_22 c3_56
abbrev c3_58 : AC := .reg [⟨(some 135), .build [(.I 0), (.I 0)] [(0, 1, (.k (.I (-9999)))), (1, 1, (.k (.I 9999)))], none⟩,
  ⟨(some 16), .alloc 36 [(.I 0), (.I 0)], none⟩,
  ⟨none, .st (some 2) (.t 16) (.t 135), none⟩] false
abbrev c3_59 : AC := .reg [⟨(some 17), .mv (.k (.I 0)), none⟩] false
abbrev c3_60 : AC := .reg [⟨(some 136), .mv (.t 17), none⟩,
  ⟨(some 137), .mv (.t 9), none⟩,
  ⟨(some 138), .len (.t 137), none⟩,
  ⟨(some 139), .bin .lss (.t 136) (.t 138), none⟩] false
abbrev c3_61 : AC := .cond (.t 139) .skip (.exit 4)
abbrev c3_62 : AC := .seq c3_60 c3_61
abbrev c3_63 : AC := .reg [⟨(some 142), .mv (.t 9), none⟩,
  ⟨(some 143), .mv (.t 17), none⟩,
  ⟨(some 144), .iad 1 (.t 142) (.t 143), none⟩,
  ⟨(some 145), .ld none (.t 144), none⟩,
  ⟨(some 146), .bin .lss (.t 145) (.k (.I 0)), none⟩,
  ⟨(some 147), .mv (.t 146), none⟩,
  ⟨(some 148), .mv (.t 9), (some (147, false))⟩,
  ⟨(some 149), .mv (.t 17), (some (147, false))⟩,
  ⟨(some 150), .iad 1 (.t 148) (.t 149), (some (147, false))⟩,
  ⟨(some 151), .ld none (.t 150), (some (147, false))⟩,
  ⟨(some 152), .mv (.t 0), (some (147, false))⟩,
  ⟨(some 153), .len (.t 152), (some (147, false))⟩,
  ⟨(some 154), .bin .geq (.t 151) (.t 153), (some (147, false))⟩,
  ⟨(some 155), .pick (.t 147) (.k (.B true)) (.t 154), none⟩] false
abbrev c3_64 : AC := .reg [⟨(some 2), .mv (.k (.B false)), none⟩] false
abbrev c3_65 : AC := .seq c3_64 .ret
abbrev c3_66 : AC := .cond (.t 155) c3_65 .skip
abbrev c3_67 : AC := .seq c3_63 c3_66
abbrev c3_68 : AC := .regX (.first ⟨(some 158), .mv (.t 0), none⟩
  (.first ⟨(some 159), .mv (.t 9), none⟩
  (.first ⟨(some 160), .mv (.t 17), none⟩
  (.first ⟨(some 161), .iad 1 (.t 159) (.t 160), none⟩
  (.fork ⟨(some 157), .ld (some 2) (.t 16), none⟩
  (.fork ⟨(some 162), .ld none (.t 161), none⟩
  (.first ⟨(some 163), .iad 2 (.t 158) (.t 162), none⟩
  (.fork ⟨(some 164), .ld (some 2) (.t 163), none⟩
  (.fork ⟨(some 165), .call 10 [(.t 157), (.t 164)], none⟩
  (.first ⟨(some 156), .mv (.t 165), none⟩
  (.first ⟨(some 166), .ext (.t 156) 0, none⟩
  (.first ⟨(some 167), .ext (.t 156) 1, none⟩
  (.fork ⟨(some 18), .alloc 36 [(.I 0), (.I 0)], none⟩
  (.fork ⟨none, .st (some 2) (.t 18) (.t 166), none⟩
  (.first ⟨(some 19), .mv (.t 167), none⟩
  .done)
  .nope)
  .nope))))
  (.fork ⟨(some 18), .alloc 36 [(.I 0), (.I 0)], none⟩
  (.fork ⟨(some 165), .call 10 [(.t 157), (.t 164)], none⟩
  (.first ⟨(some 156), .mv (.t 165), none⟩
  (.first ⟨(some 166), .ext (.t 156) 0, none⟩
  (.first ⟨(some 167), .ext (.t 156) 1, none⟩
  (.fork ⟨none, .st (some 2) (.t 18) (.t 166), none⟩
  (.first ⟨(some 19), .mv (.t 167), none⟩
  .done)
  .nope))))
  .nope)
  .nope))
  (.fork ⟨(some 18), .alloc 36 [(.I 0), (.I 0)], none⟩
  (.fork ⟨(some 164), .ld (some 2) (.t 163), none⟩
  (.fork ⟨(some 165), .call 10 [(.t 157), (.t 164)], none⟩
  (.first ⟨(some 156), .mv (.t 165), none⟩
  (.first ⟨(some 166), .ext (.t 156) 0, none⟩
  (.first ⟨(some 167), .ext (.t 156) 1, none⟩
  (.fork ⟨none, .st (some 2) (.t 18) (.t 166), none⟩
  (.first ⟨(some 19), .mv (.t 167), none⟩
  .done)
  .nope))))
  .nope)
  .nope)
  .nope)))
  (.fork ⟨(some 18), .alloc 36 [(.I 0), (.I 0)], none⟩
  (.fork ⟨(some 162), .ld none (.t 161), none⟩
  (.first ⟨(some 163), .iad 2 (.t 158) (.t 162), none⟩
  (.fork ⟨(some 164), .ld (some 2) (.t 163), none⟩
  (.fork ⟨(some 165), .call 10 [(.t 157), (.t 164)], none⟩
  (.first ⟨(some 156), .mv (.t 165), none⟩
  (.first ⟨(some 166), .ext (.t 156) 0, none⟩
  (.first ⟨(some 167), .ext (.t 156) 1, none⟩
  (.fork ⟨none, .st (some 2) (.t 18) (.t 166), none⟩
  (.first ⟨(some 19), .mv (.t 167), none⟩
  .done)
  .nope))))
  .nope)
  .nope))
  .nope)
  .nope))
  (.fork ⟨(some 162), .ld none (.t 161), none⟩
  (.first ⟨(some 163), .iad 2 (.t 158) (.t 162), none⟩
  (.fork ⟨(some 157), .ld (some 2) (.t 16), none⟩
  (.fork ⟨(some 164), .ld (some 2) (.t 163), none⟩
  (.fork ⟨(some 165), .call 10 [(.t 157), (.t 164)], none⟩
  (.first ⟨(some 156), .mv (.t 165), none⟩
  (.first ⟨(some 166), .ext (.t 156) 0, none⟩
  (.first ⟨(some 167), .ext (.t 156) 1, none⟩
  (.fork ⟨(some 18), .alloc 36 [(.I 0), (.I 0)], none⟩
  (.fork ⟨none, .st (some 2) (.t 18) (.t 166), none⟩
  (.first ⟨(some 19), .mv (.t 167), none⟩
  .done)
  .nope)
  .nope))))
  (.fork ⟨(some 18), .alloc 36 [(.I 0), (.I 0)], none⟩
  (.fork ⟨(some 165), .call 10 [(.t 157), (.t 164)], none⟩
  (.first ⟨(some 156), .mv (.t 165), none⟩
  (.first ⟨(some 166), .ext (.t 156) 0, none⟩
  (.first ⟨(some 167), .ext (.t 156) 1, none⟩
  (.fork ⟨none, .st (some 2) (.t 18) (.t 166), none⟩
  (.first ⟨(some 19), .mv (.t 167), none⟩
  .done)
  .nope))))
  .nope)
  .nope))
  (.fork ⟨(some 18), .alloc 36 [(.I 0), (.I 0)], none⟩
  (.fork ⟨(some 164), .ld (some 2) (.t 163), none⟩
  (.fork ⟨(some 165), .call 10 [(.t 157), (.t 164)], none⟩
  (.first ⟨(some 156), .mv (.t 165), none⟩
  (.first ⟨(some 166), .ext (.t 156) 0, none⟩
  (.first ⟨(some 167), .ext (.t 156) 1, none⟩
  (.fork ⟨none, .st (some 2) (.t 18) (.t 166), none⟩
  (.first ⟨(some 19), .mv (.t 167), none⟩
  .done)
  .nope))))
  .nope)
  .nope)
  .nope))
  (.fork ⟨(some 164), .ld (some 2) (.t 163), none⟩
  (.fork ⟨(some 157), .ld (some 2) (.t 16), none⟩
  (.fork ⟨(some 165), .call 10 [(.t 157), (.t 164)], none⟩
  (.first ⟨(some 156), .mv (.t 165), none⟩
  (.first ⟨(some 166), .ext (.t 156) 0, none⟩
  (.first ⟨(some 167), .ext (.t 156) 1, none⟩
  (.fork ⟨(some 18), .alloc 36 [(.I 0), (.I 0)], none⟩
  (.fork ⟨none, .st (some 2) (.t 18) (.t 166), none⟩
  (.first ⟨(some 19), .mv (.t 167), none⟩
  .done)
  .nope)
  .nope))))
  (.fork ⟨(some 18), .alloc 36 [(.I 0), (.I 0)], none⟩
  (.fork ⟨(some 165), .call 10 [(.t 157), (.t 164)], none⟩
  (.first ⟨(some 156), .mv (.t 165), none⟩
  (.first ⟨(some 166), .ext (.t 156) 0, none⟩
  (.first ⟨(some 167), .ext (.t 156) 1, none⟩
  (.fork ⟨none, .st (some 2) (.t 18) (.t 166), none⟩
  (.first ⟨(some 19), .mv (.t 167), none⟩
  .done)
  .nope))))
  .nope)
  .nope))
  (.fork ⟨(some 18), .alloc 36 [(.I 0), (.I 0)], none⟩
  (.fork ⟨(some 157), .ld (some 2) (.t 16), none⟩
  (.fork ⟨(some 165), .call 10 [(.t 157), (.t 164)], none⟩
  (.first ⟨(some 156), .mv (.t 165), none⟩
  (.first ⟨(some 166), .ext (.t 156) 0, none⟩
  (.first ⟨(some 167), .ext (.t 156) 1, none⟩
  (.fork ⟨none, .st (some 2) (.t 18) (.t 166), none⟩
  (.first ⟨(some 19), .mv (.t 167), none⟩
  .done)
  .nope))))
  .nope)
  .nope)
  .nope))
  (.fork ⟨(some 18), .alloc 36 [(.I 0), (.I 0)], none⟩
  (.fork ⟨(some 157), .ld (some 2) (.t 16), none⟩
  (.fork ⟨(some 164), .ld (some 2) (.t 163), none⟩
  (.fork ⟨(some 165), .call 10 [(.t 157), (.t 164)], none⟩
  (.first ⟨(some 156), .mv (.t 165), none⟩
  (.first ⟨(some 166), .ext (.t 156) 0, none⟩
  (.first ⟨(some 167), .ext (.t 156) 1, none⟩
  (.fork ⟨none, .st (some 2) (.t 18) (.t 166), none⟩
  (.first ⟨(some 19), .mv (.t 167), none⟩
  .done)
  .nope))))
  .nope)
  .nope)
  (.fork ⟨(some 164), .ld (some 2) (.t 163), none⟩
  (.fork ⟨(some 157), .ld (some 2) (.t 16), none⟩
  (.fork ⟨(some 165), .call 10 [(.t 157), (.t 164)], none⟩
  (.first ⟨(some 156), .mv (.t 165), none⟩
  (.first ⟨(some 166), .ext (.t 156) 0, none⟩
  (.first ⟨(some 167), .ext (.t 156) 1, none⟩
  (.fork ⟨none, .st (some 2) (.t 18) (.t 166), none⟩
  (.first ⟨(some 19), .mv (.t 167), none⟩
  .done)
  .nope))))
  .nope)
  .nope)
  .nope))
  .nope))))
  (.fork ⟨(some 18), .alloc 36 [(.I 0), (.I 0)], none⟩
  (.fork ⟨(some 157), .ld (some 2) (.t 16), none⟩
  (.fork ⟨(some 162), .ld none (.t 161), none⟩
  (.first ⟨(some 163), .iad 2 (.t 158) (.t 162), none⟩
  (.fork ⟨(some 164), .ld (some 2) (.t 163), none⟩
  (.fork ⟨(some 165), .call 10 [(.t 157), (.t 164)], none⟩
  (.first ⟨(some 156), .mv (.t 165), none⟩
  (.first ⟨(some 166), .ext (.t 156) 0, none⟩
  (.first ⟨(some 167), .ext (.t 156) 1, none⟩
  (.fork ⟨none, .st (some 2) (.t 18) (.t 166), none⟩
  (.first ⟨(some 19), .mv (.t 167), none⟩
  .done)
  .nope))))
  .nope)
  .nope))
  .nope)
  (.fork ⟨(some 162), .ld none (.t 161), none⟩
  (.first ⟨(some 163), .iad 2 (.t 158) (.t 162), none⟩
  (.fork ⟨(some 157), .ld (some 2) (.t 16), none⟩
  (.fork ⟨(some 164), .ld (some 2) (.t 163), none⟩
  (.fork ⟨(some 165), .call 10 [(.t 157), (.t 164)], none⟩
  (.first ⟨(some 156), .mv (.t 165), none⟩
  (.first ⟨(some 166), .ext (.t 156) 0, none⟩
  (.first ⟨(some 167), .ext (.t 156) 1, none⟩
  (.fork ⟨none, .st (some 2) (.t 18) (.t 166), none⟩
  (.first ⟨(some 19), .mv (.t 167), none⟩
  .done)
  .nope))))
  .nope)
  .nope)
  (.fork ⟨(some 164), .ld (some 2) (.t 163), none⟩
  (.fork ⟨(some 157), .ld (some 2) (.t 16), none⟩
  (.fork ⟨(some 165), .call 10 [(.t 157), (.t 164)], none⟩
  (.first ⟨(some 156), .mv (.t 165), none⟩
  (.first ⟨(some 166), .ext (.t 156) 0, none⟩
  (.first ⟨(some 167), .ext (.t 156) 1, none⟩
  (.fork ⟨none, .st (some 2) (.t 18) (.t 166), none⟩
  (.first ⟨(some 19), .mv (.t 167), none⟩
  .done)
  .nope))))
  .nope)
  .nope)
  .nope)))
  .nope))
  .nope)))))))
abbrev c3_69 : AC := .reg [⟨(some 168), .mv (.t 19), none⟩,
  ⟨(some 169), .not (.t 168), none⟩] false
abbrev c3_70 : AC := .reg [⟨(some 2), .mv (.k (.B false)), none⟩] false
abbrev c3_71 : AC := .seq c3_70 .ret
abbrev c3_72 : AC := .cond (.t 169) c3_71 .skip
abbrev c3_73 : AC := .seq c3_69 c3_72
abbrev c3_74 : AC := .reg [⟨(some 170), .ld (some 2) (.t 18), none⟩,
  ⟨none, .st (some 2) (.t 16) (.t 170), none⟩] false
abbrev c3_75 : AC := .seq c3_73 c3_74
abbrev c3_76 : AC := .seq c3_68 c3_75
abbrev c3_77 : AC := .seq c3_67 c3_76
abbrev c3_78 : AC := .block 5 c3_77
abbrev c3_79 : AC := .reg [⟨(some 140), .mv (.t 17), none⟩,
  ⟨(some 141), .bin .add (.t 140) (.k (.I 1)), none⟩,
  ⟨(some 17), .mv (.t 141), none⟩] false
abbrev c3_80 : AC := .seq c3_78 c3_79
abbrev c3_81 : AC := .seq c3_62 c3_80
abbrev c3_82 : AC := .loop c3_81
abbrev c3_83 : AC := .block 4 c3_82
abbrev c3_84 : AC := .seq c3_59 c3_83
abbrev c3_85 : AC := .reg [⟨(some 171), .mv (.t 11), none⟩,
  ⟨(some 172), .mv (.t 3), none⟩,
  ⟨(some 173), .len (.t 172), none⟩,
  ⟨(some 174), .bin .eql (.t 171) (.t 173), none⟩,
  ⟨(some 2), .mv (.t 174), none⟩] false
abbrev c3_86 : AC := .seq c3_85 .ret
abbrev c3_87 : AC := .seq c3_84 c3_86
abbrev c3_88 : AC := .seq c3_58 c3_87
abbrev c3_89 : AC := .seq c3_57 c3_88
abbrev c3_90 : AC := .seq c3_21 c3_89
abbrev c3_91 : AC := .seq c3_20 c3_90
abbrev c3_92 : AC := .seq c3_15 c3_91
abbrev c3_93 : AC := .seq c3_14 c3_92
abbrev c3_94 : AC := .seq c3_13 c3_93
abbrev c3_95 : AC := .seq c3_8 c3_94
abbrev c3_96 : AC := .seq c3_7 c3_95
abbrev c3_97 : AC := .seq c3_6 c3_96
abbrev c3_98 : AC := .seq c3_1 c3_97
abbrev c3 : AC := c3_98
theorem code3 : fnCode Try.prog 3 = some (c3, [2], 175) := by kernel_rfl

theorem at_ov (l : List Yr) (i j : Nat) (h : i + 1 ≤ j) (hj : j < l.length) (ho : ovB l i j = true) : (prO l i j).length < (ovs l).length ∧ nth (ovs l) (prO l i j).length = (i, j) := by
  obtain ⟨t, ht⟩ := prO_pre l i (j + 1) (by omega) (by omega)
  rw [prO_k l i j h, ho, if_pos rfl] at ht
  have hl : (prO l i j).length < (ovs l).length := by rw [← ht]; simp
  refine ⟨hl, ?_⟩
  rw [nth_eq _ _ hl]
  have : ∀ (L : List (Nat × Nat)) (h : (prO l i j).length < L.length), (prO l i j ++ [(i, j)]) ++ t = L → L[(prO l i j).length] = (i, j) := by
    intro L h e
    subst e
    rw [List.getElem_append_left (by simp), List.getElem_append_right (by omega)]
    simp
  exact this _ hl ht
theorem not_ov (l : List Yr) (i j a : Nat) (ho : ovB l i j = false) (ha : a < (ovs l).length) : nth (ovs l) a ≠ (i, j) := fun e => by
  have h := (ovs_mem (l := l)).1 (nth_mem _ a ha)
  rw [e] at h
  rw [ho] at h
  exact absurd h.2.2 (by simp)
theorem ovs_facts (l : List Yr) (i : Nat) (hi : i < (ovs l).length) : (nth (ovs l) i).1 < (nth (ovs l) i).2 ∧ (nth (ovs l) i).2 < l.length := by
  have h := (ovs_mem (l := l)).1 (nth_mem _ i hi)
  exact ⟨h.1, h.2.1⟩
theorem ovs_lex (l : List Yr) (i : Nat) (hi : i < (ovs l).length) (h0 : 0 < i) : lexP (nth (ovs l) (i - 1)) (nth (ovs l) i) := by
  rw [nth_eq _ _ hi, nth_eq _ _ (by omega)]
  exact List.pairwise_iff_getElem.1 (ovs_pw l) (i - 1) i (by omega) hi (by omega)
def in3 (l : List Yr) (C : List Nat) (a i : Nat) (m : Yr) : St := ⟨175, [(0, .c (Yrs l)), (3, .c (PR (ovs l))), (9, .c (NR C)), (11, .I (a : Int)), (16, .ptr 16 0), (17, .I (i : Int))], [(16, .box 36 [.I m.1, .I m.2])]⟩
def ou3 (l : List Yr) (C : List Nat) (a i : Nat) (m m' : Yr) : St := ⟨175, [(0, .c (Yrs l)), (3, .c (PR (ovs l))), (9, .c (NR C)), (11, .I (a : Int)), (16, .ptr 16 0), (17, .I (i : Int)), (18, .ptr 18 0), (19, .c (.B true))], [(16, .box 36 [.I m.1, .I m.2]), (18, .box 36 [.I m'.1, .I m'.2])]⟩
set_option maxHeartbeats 40000000 in
theorem r3 (l : List Yr) (C : List Nat) (a i : Nat) (m m' : Yr) (hi : i < C.length) (hc : nth C i < l.length) (g : FnR Try.prog 10 [yv m, yv (nth l (nth C i))] [.agg [.I m'.1, .I m'.2], .c (.B true)]) : AW Try.prog c3_68 (cutQ (ou3 l C a i m m')) (in3 l C a i m) := by
  have hge := getD_map nc C i [] hi
  have hge2 := getD_map yc l (nth C i) [] hc
  have k1 : (0 : Int) ≤ ((nth C i : Nat) : Int) := by omega
  have k2 : ((nth C i : Nat) : Int) < (l.length : Int) := by omega
  refine AW_regX (by kernel_rfl) ?_
  unfold in3
  (repeat' (first | refine NextAt.mk (fun hc => ?_) (fun pre n v post hc hkey => ?_) | refine Sni.mk (fun hc => ?_) ?_ | refine Both.mk ?_ ?_ | refine AW_seq ?_ | refine AW_block ?_ | ((first | refine AW_reg ?_ | refine AW_cond ?_ | refine AW_skip ?_ | refine AW_exit ?_ | refine AW_ret ?_ | refine AW_regD (by kernel_rfl) ?_ | refine AW_regX (by kernel_rfl) ?_ | refine CallAtG.t (Eq.refl true) ?_ | refine CallAtG.f (Eq.refl false) ?_); try simp (maxSteps := 5000000) (disch := omega) only [go_sem, seval, reduceCtorEq, ↓reduceIte, beq_dec, Int.toNat_natCast, IntKind.signed, IntKind.bits, hge, hge2, nc, yc, Int.toNat_natCast, List.length_map, k1, k2]) | refine And.intro (fun hc => (?_ : AW _ _ _ _)) (fun hc => (?_ : AW _ _ _ _)) | simp (maxSteps := 5000000) (disch := omega) only [go_sem, seval, reduceCtorEq, ↓reduceIte, beq_dec, Int.toNat_natCast, IntKind.signed, IntKind.bits, hge, hge2, nc, yc, Int.toNat_natCast, List.length_map, k1, k2] | (refine And.intro ?_ ?_; focus (first | (intros; omega) | (intros; simp_all; done))) | refine And.intro (?_ : CallAt _ _ _ _ _ _ _ _) ?_ | refine And.intro (?_ : CallAt _ _ _ _ _ _ _ _ ∧ _) ?_ | refine And.intro (?_ : AW _ _ _ _) ?_ | fail))
  repeat' apply And.intro
  all_goals first | omega | assumption | skip
  all_goals ((repeat' (first | refine NextAt.mk (fun hc => ?_) (fun pre n v post hc hkey => ?_) | refine Sni.mk (fun hc => ?_) ?_ | refine Both.mk ?_ ?_ | refine AW_seq ?_ | refine AW_block ?_ | ((first | refine AW_reg ?_ | refine AW_cond ?_ | refine AW_skip ?_ | refine AW_exit ?_ | refine AW_ret ?_ | refine AW_regD (by kernel_rfl) ?_ | refine AW_regX (by kernel_rfl) ?_ | refine CallAtG.t (Eq.refl true) ?_ | refine CallAtG.f (Eq.refl false) ?_ | refine CallAt.mk _ (g ..) (by first | (intro h; cases h; done) | (intro _; repeat' (first | exact List.forall_mem_nil _ | trivial | refine List.forall_mem_cons.2 ⟨?_, ?_⟩)) | (intro _; simp [RV.flatP, CD.flatP, ou3, hge, hge2, nc, yc, Int.toNat_natCast, List.length_map]; done)) ?_ | refine CallAtG.mk _ (fun _ => g ..) ?_ | refine CallDS.mk _ (by simp [RV.data]) (fun _ => g ..) (by first | (intro h; cases h; done) | (intro _; repeat' (first | exact List.forall_mem_nil _ | trivial | refine List.forall_mem_cons.2 ⟨?_, ?_⟩)) | (intro _; simp [RV.flatP, CD.flatP, ou3, hge, hge2, nc, yc, Int.toNat_natCast, List.length_map]; done)) ?_); try simp (disch := omega) only [go_sem, seval, reduceCtorEq, ↓reduceIte, beq_dec, Int.toNat_natCast, IntKind.signed, IntKind.bits, ou3, hge, hge2, nc, yc, Int.toNat_natCast, List.length_map]) | refine And.intro (fun hc => (?_ : AW _ _ _ _)) (fun hc => (?_ : AW _ _ _ _)) | simp (disch := omega) only [go_sem, seval, reduceCtorEq, ↓reduceIte, beq_dec, Int.toNat_natCast, IntKind.signed, IntKind.bits, ou3, hge, hge2, nc, yc, Int.toNat_natCast, List.length_map] | (refine And.intro ?_ ?_; focus (first | (intros; omega) | (intros; simp_all; done))) | refine And.intro (?_ : CallAt _ _ _ _ _ _ _ _) ?_ | refine And.intro (?_ : CallAt _ _ _ _ _ _ _ _ ∧ _) ?_ | refine And.intro (?_ : AW _ _ _ _) ?_ | fail)))
  all_goals first | omega | assumption | trace_state
theorem hold3 {Q : Exit → St → Prop} {σ : St} (h : Hold (AW Try.prog c3_68 Q σ)) : AW Try.prog c3_68 Q σ := h.out
end Go.Proofs.Ytggcpnnmmcnogaa

-- P p_b.txt
open Go Go.AL Go.RowKit
namespace Go.Proofs.Ytggcpnnmmcnogaa
set_option maxRecDepth 20000
set_option maxHeartbeats 16000000 in
theorem x3 (l : List Yr) : FnR Try.prog 3 [.c (Yrs l)] [.c (.B true)] := by
  by_cases hl : l.length ≤ 9
  case neg =>
    have z : decide ((9 : Int) < (l.length : Int)) = true := decide_eq_true (by omega)
    refine fn_walk code3 (by simp) ?_
    (repeat' (first | refine NextAt.mk (fun hc => ?_) (fun pre n v post hc hkey => ?_) | refine Sni.mk (fun hc => ?_) ?_ | refine Both.mk ?_ ?_ | refine AW_seq ?_ | refine AW_block ?_ | ((first | refine AW_reg ?_ | refine AW_cond ?_ | refine AW_skip ?_ | refine AW_exit ?_ | refine AW_ret ?_ | refine AW_regD (by kernel_rfl) ?_ | refine AW_regX (by kernel_rfl) ?_ | refine CallAtG.t (Eq.refl true) ?_ | refine CallAtG.f (Eq.refl false) ?_ | refine CallAt.mk _ (x4 ..) (by first | (intro h; cases h; done) | (intro _; repeat' (first | exact List.forall_mem_nil _ | trivial | refine List.forall_mem_cons.2 ⟨?_, ?_⟩)) | (intro _; simp [RV.flatP, CD.flatP, List.length_map, z]; done)) ?_ | refine CallAtG.mk _ (fun _ => x4 ..) ?_ | refine CallDS.mk _ (by simp [RV.data]) (fun _ => x4 ..) (by first | (intro h; cases h; done) | (intro _; repeat' (first | exact List.forall_mem_nil _ | trivial | refine List.forall_mem_cons.2 ⟨?_, ?_⟩)) | (intro _; simp [RV.flatP, CD.flatP, List.length_map, z]; done)) ?_); try simp (disch := omega) only [go_sem, seval, reduceCtorEq, ↓reduceIte, beq_dec, Int.toNat_natCast, IntKind.signed, IntKind.bits, List.length_map, z]) | refine And.intro (fun hc => (?_ : AW _ _ _ _)) (fun hc => (?_ : AW _ _ _ _)) | simp (disch := omega) only [go_sem, seval, reduceCtorEq, ↓reduceIte, beq_dec, Int.toNat_natCast, IntKind.signed, IntKind.bits, List.length_map, z] | (refine And.intro ?_ ?_; focus (first | (intros; omega) | (intros; simp_all; done))) | refine And.intro (?_ : CallAt _ _ _ _ _ _ _ _) ?_ | refine And.intro (?_ : CallAt _ _ _ _ _ _ _ _ ∧ _) ?_ | refine And.intro (?_ : AW _ _ _ _) ?_ | fail))
  have z : decide ((9 : Int) < (l.length : Int)) = false := decide_eq_false (by omega)
  have hch : chY l = 0 ∨ chY l = 1 := by unfold chY; split <;> simp
  rcases hch with h0 | h1
  case inr =>
    have g5 := x5e l hl h1
    have g6 := x6e l hl h1
    refine fn_walk code3 (by simp) ?_
    (repeat' (first | refine NextAt.mk (fun hc => ?_) (fun pre n v post hc hkey => ?_) | refine Sni.mk (fun hc => ?_) ?_ | refine Both.mk ?_ ?_ | refine AW_seq ?_ | refine AW_block ?_ | ((first | refine AW_reg ?_ | refine AW_cond ?_ | refine AW_skip ?_ | refine AW_exit ?_ | refine AW_ret ?_ | refine AW_regD (by kernel_rfl) ?_ | refine AW_regX (by kernel_rfl) ?_ | refine CallAtG.t (Eq.refl true) ?_ | refine CallAtG.f (Eq.refl false) ?_ | refine CallAt.mk _ (x4 ..) (by first | (intro h; cases h; done) | (intro _; repeat' (first | exact List.forall_mem_nil _ | trivial | refine List.forall_mem_cons.2 ⟨?_, ?_⟩)) | (intro _; simp [RV.flatP, CD.flatP, List.length_map, z]; done)) ?_ | refine CallAtG.mk _ (fun _ => x4 ..) ?_ | refine CallDS.mk _ (by simp [RV.data]) (fun _ => x4 ..) (by first | (intro h; cases h; done) | (intro _; repeat' (first | exact List.forall_mem_nil _ | trivial | refine List.forall_mem_cons.2 ⟨?_, ?_⟩)) | (intro _; simp [RV.flatP, CD.flatP, List.length_map, z]; done)) ?_ | refine CallAt.mk _ (g5 ..) (by first | (intro h; cases h; done) | (intro _; repeat' (first | exact List.forall_mem_nil _ | trivial | refine List.forall_mem_cons.2 ⟨?_, ?_⟩)) | (intro _; simp [RV.flatP, CD.flatP, List.length_map, z]; done)) ?_ | refine CallAtG.mk _ (fun _ => g5 ..) ?_ | refine CallDS.mk _ (by simp [RV.data]) (fun _ => g5 ..) (by first | (intro h; cases h; done) | (intro _; repeat' (first | exact List.forall_mem_nil _ | trivial | refine List.forall_mem_cons.2 ⟨?_, ?_⟩)) | (intro _; simp [RV.flatP, CD.flatP, List.length_map, z]; done)) ?_ | refine CallAt.mk _ (g6 ..) (by first | (intro h; cases h; done) | (intro _; repeat' (first | exact List.forall_mem_nil _ | trivial | refine List.forall_mem_cons.2 ⟨?_, ?_⟩)) | (intro _; simp [RV.flatP, CD.flatP, List.length_map, z]; done)) ?_ | refine CallAtG.mk _ (fun _ => g6 ..) ?_ | refine CallDS.mk _ (by simp [RV.data]) (fun _ => g6 ..) (by first | (intro h; cases h; done) | (intro _; repeat' (first | exact List.forall_mem_nil _ | trivial | refine List.forall_mem_cons.2 ⟨?_, ?_⟩)) | (intro _; simp [RV.flatP, CD.flatP, List.length_map, z]; done)) ?_); try simp (disch := omega) only [go_sem, seval, reduceCtorEq, ↓reduceIte, beq_dec, Int.toNat_natCast, IntKind.signed, IntKind.bits, List.length_map, z]) | refine And.intro (fun hc => (?_ : AW _ _ _ _)) (fun hc => (?_ : AW _ _ _ _)) | simp (disch := omega) only [go_sem, seval, reduceCtorEq, ↓reduceIte, beq_dec, Int.toNat_natCast, IntKind.signed, IntKind.bits, List.length_map, z] | (refine And.intro ?_ ?_; focus (first | (intros; omega) | (intros; simp_all; done))) | refine And.intro (?_ : CallAt _ _ _ _ _ _ _ _) ?_ | refine And.intro (?_ : CallAt _ _ _ _ _ _ _ _ ∧ _) ?_ | refine And.intro (?_ : AW _ _ _ _) ?_ | fail))
  have g5 := x5 l hl h0
  have g6 := x6 l hl h0
  have hv := chY_ok h0
  have hok : ∀ i, i < l.length → okY 9999 (nth l i) := fun i hi => vY_iff.1 (hv i hi)
  have hle : ∀ i, i < l.length → (nth l i).1 ≤ (nth l i).2 := fun i hi => (hok i hi).1
  have hpl : (ovs l).length ≤ 156 := prO_len l (by omega) l.length (l.length + 1) (by omega) (by omega)
  have hG := made_gof l
  obtain ⟨⟨c, hc1⟩, hc2⟩ := box_colors hle hG
  obtain ⟨hq, hql⟩ := clique_spec hle hG
  have hbl : boxN l ≤ 9 := by
    have : boxN l = bxN l l.length := by unfold bxN boxN; rw [List.take_length]
    have := bxN_len l l.length
    omega
  have g7 := x7 l.length (by omega) (ovs l) (by omega) (ovs_facts l) (ovs_lex l) (boxN l) (by omega) c hc2 hc1
  have g8 := x8 l.length (by omega) (ovs l) (by omega) (ovs_facts l) (ovs_lex l)
  have hmt := fun k => mtC_ok (M := 9999) (by omega) hok hq k
  generalize grwN (madeN l.length (ovs l)) l.length (l.length + 1) [] 0 [] = C at *
  clear hc1 hc2 hG
  refine fn_walk code3 (by simp) ?_
  (repeat' (first | refine NextAt.mk (fun hc => ?_) (fun pre n v post hc hkey => ?_) | refine Sni.mk (fun hc => ?_) ?_ | refine Both.mk ?_ ?_ | refine AW_seq ?_ | refine AW_block ?_ | ((first | refine AW_reg ?_ | refine AW_cond ?_ | refine AW_skip ?_ | refine AW_exit ?_ | refine AW_ret ?_ | refine AW_regD (by kernel_rfl) ?_ | refine AW_regX (by kernel_rfl) ?_ | refine CallAtG.t (Eq.refl true) ?_ | refine CallAtG.f (Eq.refl false) ?_ | refine CallAt.mk _ (x4 ..) (by first | (intro h; cases h; done) | (intro _; repeat' (first | exact List.forall_mem_nil _ | trivial | refine List.forall_mem_cons.2 ⟨?_, ?_⟩)) | (intro _; simp [RV.flatP, CD.flatP, List.length_map, z, hql]; done)) ?_ | refine CallAtG.mk _ (fun _ => x4 ..) ?_ | refine CallDS.mk _ (by simp [RV.data]) (fun _ => x4 ..) (by first | (intro h; cases h; done) | (intro _; repeat' (first | exact List.forall_mem_nil _ | trivial | refine List.forall_mem_cons.2 ⟨?_, ?_⟩)) | (intro _; simp [RV.flatP, CD.flatP, List.length_map, z, hql]; done)) ?_ | refine CallAt.mk _ (g5 ..) (by first | (intro h; cases h; done) | (intro _; repeat' (first | exact List.forall_mem_nil _ | trivial | refine List.forall_mem_cons.2 ⟨?_, ?_⟩)) | (intro _; simp [RV.flatP, CD.flatP, List.length_map, z, hql]; done)) ?_ | refine CallAtG.mk _ (fun _ => g5 ..) ?_ | refine CallDS.mk _ (by simp [RV.data]) (fun _ => g5 ..) (by first | (intro h; cases h; done) | (intro _; repeat' (first | exact List.forall_mem_nil _ | trivial | refine List.forall_mem_cons.2 ⟨?_, ?_⟩)) | (intro _; simp [RV.flatP, CD.flatP, List.length_map, z, hql]; done)) ?_ | refine CallAt.mk _ (g6 ..) (by first | (intro h; cases h; done) | (intro _; repeat' (first | exact List.forall_mem_nil _ | trivial | refine List.forall_mem_cons.2 ⟨?_, ?_⟩)) | (intro _; simp [RV.flatP, CD.flatP, List.length_map, z, hql]; done)) ?_ | refine CallAtG.mk _ (fun _ => g6 ..) ?_ | refine CallDS.mk _ (by simp [RV.data]) (fun _ => g6 ..) (by first | (intro h; cases h; done) | (intro _; repeat' (first | exact List.forall_mem_nil _ | trivial | refine List.forall_mem_cons.2 ⟨?_, ?_⟩)) | (intro _; simp [RV.flatP, CD.flatP, List.length_map, z, hql]; done)) ?_ | refine CallAt.mk _ (g7 ..) (by first | (intro h; cases h; done) | (intro _; repeat' (first | exact List.forall_mem_nil _ | trivial | refine List.forall_mem_cons.2 ⟨?_, ?_⟩)) | (intro _; simp [RV.flatP, CD.flatP, List.length_map, z, hql]; done)) ?_ | refine CallAtG.mk _ (fun _ => g7 ..) ?_ | refine CallDS.mk _ (by simp [RV.data]) (fun _ => g7 ..) (by first | (intro h; cases h; done) | (intro _; repeat' (first | exact List.forall_mem_nil _ | trivial | refine List.forall_mem_cons.2 ⟨?_, ?_⟩)) | (intro _; simp [RV.flatP, CD.flatP, List.length_map, z, hql]; done)) ?_ | refine CallAt.mk _ (g8 ..) (by first | (intro h; cases h; done) | (intro _; repeat' (first | exact List.forall_mem_nil _ | trivial | refine List.forall_mem_cons.2 ⟨?_, ?_⟩)) | (intro _; simp [RV.flatP, CD.flatP, List.length_map, z, hql]; done)) ?_ | refine CallAtG.mk _ (fun _ => g8 ..) ?_ | refine CallDS.mk _ (by simp [RV.data]) (fun _ => g8 ..) (by first | (intro h; cases h; done) | (intro _; repeat' (first | exact List.forall_mem_nil _ | trivial | refine List.forall_mem_cons.2 ⟨?_, ?_⟩)) | (intro _; simp [RV.flatP, CD.flatP, List.length_map, z, hql]; done)) ?_); try simp (disch := omega) only [go_sem, seval, reduceCtorEq, ↓reduceIte, beq_dec, Int.toNat_natCast, IntKind.signed, IntKind.bits, List.length_map, z, hql]) | refine And.intro (fun hc => (?_ : AW _ _ _ _)) (fun hc => (?_ : AW _ _ _ _)) | simp (disch := omega) only [go_sem, seval, reduceCtorEq, ↓reduceIte, beq_dec, Int.toNat_natCast, IntKind.signed, IntKind.bits, List.length_map, z, hql] | (refine And.intro ?_ ?_; focus (first | (intros; omega) | (intros; simp_all; done))) | refine And.intro (?_ : CallAt _ _ _ _ _ _ _ _) ?_ | refine And.intro (?_ : CallAt _ _ _ _ _ _ _ _ ∧ _) ?_ | refine And.intro (?_ : AW _ _ _ _) ?_ | fail))
  have hbt : (true == true) = true := rfl
  have hbf : (false == false) = true := rfl
  refine AW_loopK [0, 3, 9] [2, 11, 12, 13, 14, 15, 87, 88, 89, 90, 91, 92, 93, 94, 95, 96, 97, 98, 99, 100, 101, 102, 103, 104, 105, 106, 107, 108, 109, 110, 111, 112, 113, 114, 115, 116, 117, 118, 119, 120, 121, 122, 123, 124, 125, 126, 127, 128, 129, 130, 131, 132, 133, 134] (fun i : Nat => i ≤ l.length) (fun i => [(11, .I ((prO l i (i + 1)).length : Nat)), (12, .I i)]) (fun _ => []) (fun i => l.length - i) 0 (by omega) ?_ ?_
  · have e0 : (prO l 0 (0 + 1)).length = 0 := rfl
    simp (disch := omega) only [go_sem, seval, reduceCtorEq, ↓reduceIte, beq_dec, Int.toNat_natCast, IntKind.signed, IntKind.bits, Int.natCast_zero, e0]
  · intro i hi
    rcases Nat.lt_or_ge i l.length with hil | hil
    · have hge := getD_map yc l i [] hil
      have hkk : ((i : Int) < (l.length : Int)) = True := eq_true (by omega)
      (repeat' (first | refine NextAt.mk (fun hc => ?_) (fun pre n v post hc hkey => ?_) | refine Sni.mk (fun hc => ?_) ?_ | refine Both.mk ?_ ?_ | refine AW_seq ?_ | refine AW_block ?_ | ((first | refine AW_reg ?_ | refine AW_cond ?_ | refine AW_skip ?_ | refine AW_exit ?_ | refine AW_ret ?_ | refine AW_regD (by kernel_rfl) ?_ | refine AW_regX (by kernel_rfl) ?_ | refine CallAtG.t (Eq.refl true) ?_ | refine CallAtG.f (Eq.refl false) ?_); try simp (disch := omega) only [go_sem, seval, reduceCtorEq, ↓reduceIte, beq_dec, Int.toNat_natCast, IntKind.signed, IntKind.bits, Int.toNat_natCast, List.length_map, hkk]) | refine And.intro (fun hc => (?_ : AW _ _ _ _)) (fun hc => (?_ : AW _ _ _ _)) | simp (disch := omega) only [go_sem, seval, reduceCtorEq, ↓reduceIte, beq_dec, Int.toNat_natCast, IntKind.signed, IntKind.bits, Int.toNat_natCast, List.length_map, hkk] | (refine And.intro ?_ ?_; focus (first | (intros; omega) | (intros; simp_all; done))) | refine And.intro (?_ : CallAt _ _ _ _ _ _ _ _) ?_ | refine And.intro (?_ : CallAt _ _ _ _ _ _ _ _ ∧ _) ?_ | refine And.intro (?_ : AW _ _ _ _) ?_ | fail))
      refine AW_loopK [0, 3, 9, 12] [2, 11, 13, 14, 15, 95, 96, 97, 98, 99, 100, 101, 102, 103, 104, 105, 106, 107, 108, 109, 110, 111, 112, 113, 114, 115, 116, 117, 118, 119, 120, 121, 122, 123, 124, 125, 126, 127, 128, 129, 130, 131, 132, 133, 134] (fun j : Nat => i + 1 ≤ j ∧ j ≤ l.length) (fun j => [(11, .I ((prO l i j).length : Nat)), (13, .I j)]) (fun _ => []) (fun j => l.length - j) (i + 1) ⟨by omega, by omega⟩ ?_ ?_
      · simp (disch := omega) only [go_sem, seval, reduceCtorEq, ↓reduceIte, beq_dec, Int.toNat_natCast, IntKind.signed, IntKind.bits, Int.natCast_add, Int.natCast_one]
      · rintro j ⟨hj1, hj2⟩
        rcases Nat.lt_or_ge j l.length with hjl | hjl
        · have hge2 := getD_map yc l j [] hjl
          have hkk2 : ((j : Int) < (l.length : Int)) = True := eq_true (by omega)
          have hk := prO_k l i j hj1
          have hpl2 := prO_len l (by omega) i j hi (by omega)
          have g9 := x9 (nth l i) (nth l j) (hv i hil) (hv j hjl)
          have hr := relY_iff (hle i hil) (hle j hjl)
          rw [← ovB_iff] at hr
          generalize relY (nth l i) (nth l j) = r at *
          cases ho : ovB l i j with
          | true =>
            obtain ⟨q1, q2⟩ := at_ov l i j hj1 hjl ho
            have hge3 := getD_map pc (ovs l) (prO l i j).length [] q1
            rw [q2] at hge3
            have hk' : (prO l i (j + 1)).length = (prO l i j).length + 1 := by rw [hk, ho]; simp
            obtain ⟨r1, r2⟩ := hr.2 ho
            have s1 : ((3 : Int) ≤ r) = True := eq_true r1
            have s2 : (r ≤ (11 : Int)) = True := eq_true r2
            generalize hA' : (prO l i (j + 1)).length = A' at *
            generalize (prO l i j).length = A at *
            have s3 : ((A : Int) < ((ovs l).length : Int)) = True := eq_true (by omega)
            (repeat' (first | refine NextAt.mk (fun hc => ?_) (fun pre n v post hc hkey => ?_) | refine Sni.mk (fun hc => ?_) ?_ | refine Both.mk ?_ ?_ | refine AW_seq ?_ | refine AW_block ?_ | ((first | refine AW_reg ?_ | refine AW_cond ?_ | refine AW_skip ?_ | refine AW_exit ?_ | refine AW_ret ?_ | refine AW_regD (by kernel_rfl) ?_ | refine AW_regX (by kernel_rfl) ?_ | refine CallAtG.t (Eq.refl true) ?_ | refine CallAtG.f (Eq.refl false) ?_ | refine CallAt.mk _ (g9 ..) (by first | (intro h; cases h; done) | (intro _; repeat' (first | exact List.forall_mem_nil _ | trivial | refine List.forall_mem_cons.2 ⟨?_, ?_⟩)) | (intro _; simp [RV.flatP, CD.flatP, hge, hge2, hge3, yc, pc, Int.toNat_natCast, List.length_map, hkk2, s1, s2, s3, hbt, hbf, Bool.not_true]; done)) ?_ | refine CallAtG.mk _ (fun _ => g9 ..) ?_ | refine CallDS.mk _ (by simp [RV.data]) (fun _ => g9 ..) (by first | (intro h; cases h; done) | (intro _; repeat' (first | exact List.forall_mem_nil _ | trivial | refine List.forall_mem_cons.2 ⟨?_, ?_⟩)) | (intro _; simp [RV.flatP, CD.flatP, hge, hge2, hge3, yc, pc, Int.toNat_natCast, List.length_map, hkk2, s1, s2, s3, hbt, hbf, Bool.not_true]; done)) ?_); try simp (disch := omega) only [go_sem, seval, reduceCtorEq, ↓reduceIte, beq_dec, Int.toNat_natCast, IntKind.signed, IntKind.bits, hge, hge2, hge3, yc, pc, Int.toNat_natCast, List.length_map, hkk2, s1, s2, s3, hbt, hbf, Bool.not_true]) | refine And.intro (fun hc => (?_ : AW _ _ _ _)) (fun hc => (?_ : AW _ _ _ _)) | simp (disch := omega) only [go_sem, seval, reduceCtorEq, ↓reduceIte, beq_dec, Int.toNat_natCast, IntKind.signed, IntKind.bits, hge, hge2, hge3, yc, pc, Int.toNat_natCast, List.length_map, hkk2, s1, s2, s3, hbt, hbf, Bool.not_true] | (refine And.intro ?_ ?_; focus (first | (intros; omega) | (intros; simp_all; done))) | refine And.intro (?_ : CallAt _ _ _ _ _ _ _ _) ?_ | refine And.intro (?_ : CallAt _ _ _ _ _ _ _ _ ∧ _) ?_ | refine And.intro (?_ : AW _ _ _ _) ?_ | fail))
            refine .mk (j + 1) ⟨by omega, by omega⟩ (by omega) ?_
            rw [hA', hk']
            simp (disch := omega) only [go_sem, seval, reduceCtorEq, ↓reduceIte, beq_dec, Int.toNat_natCast, IntKind.signed, IntKind.bits, Int.natCast_add, Int.natCast_one]
          | false =>
            have hk' : (prO l i (j + 1)).length = (prO l i j).length := by rw [hk, ho]; simp
            have hnr : ¬ (3 ≤ r ∧ r ≤ 11) := fun h => by have := hr.1 h; rw [ho] at this; cases this
            have s12 : (decide ((3 : Int) ≤ r) && decide (r ≤ (11 : Int))) = false := by
              rw [Bool.and_eq_false_iff, decide_eq_false_iff_not, decide_eq_false_iff_not]; omega
            have hno := not_ov l i j (prO l i j).length ho
            have hge3 := getD_map pc (ovs l) (prO l i j).length []
            generalize hA' : (prO l i (j + 1)).length = A' at *
            generalize (prO l i j).length = A at *
            by_cases ha : A < (ovs l).length
            · have hge4 := hge3 ha
              have hne := hno ha
              have s3 : ((A : Int) < ((ovs l).length : Int)) = True := eq_true (by omega)
              have s4 : (decide (((nth (ovs l) A).1 : Int) = (i : Int)) && decide (((nth (ovs l) A).2 : Int) = (j : Int))) = false := by
                rw [Bool.and_eq_false_iff, decide_eq_false_iff_not, decide_eq_false_iff_not]
                refine Classical.byContradiction fun h => hne (Prod.ext ?_ ?_)
                · simp only []; omega
                · simp only []; omega
              generalize nth (ovs l) A = P at *
              (repeat' (first | refine NextAt.mk (fun hc => ?_) (fun pre n v post hc hkey => ?_) | refine Sni.mk (fun hc => ?_) ?_ | refine Both.mk ?_ ?_ | refine AW_seq ?_ | refine AW_block ?_ | ((first | refine AW_reg ?_ | refine AW_cond ?_ | refine AW_skip ?_ | refine AW_exit ?_ | refine AW_ret ?_ | refine AW_regD (by kernel_rfl) ?_ | refine AW_regX (by kernel_rfl) ?_ | refine CallAtG.t (Eq.refl true) ?_ | refine CallAtG.f (Eq.refl false) ?_ | refine CallAt.mk _ (g9 ..) (by first | (intro h; cases h; done) | (intro _; repeat' (first | exact List.forall_mem_nil _ | trivial | refine List.forall_mem_cons.2 ⟨?_, ?_⟩)) | (intro _; simp [RV.flatP, CD.flatP, hge, hge2, hge4, yc, pc, Int.toNat_natCast, List.length_map, hkk2, s12, s3, s4, hbt, hbf, Bool.not_true]; done)) ?_ | refine CallAtG.mk _ (fun _ => g9 ..) ?_ | refine CallDS.mk _ (by simp [RV.data]) (fun _ => g9 ..) (by first | (intro h; cases h; done) | (intro _; repeat' (first | exact List.forall_mem_nil _ | trivial | refine List.forall_mem_cons.2 ⟨?_, ?_⟩)) | (intro _; simp [RV.flatP, CD.flatP, hge, hge2, hge4, yc, pc, Int.toNat_natCast, List.length_map, hkk2, s12, s3, s4, hbt, hbf, Bool.not_true]; done)) ?_); try simp (disch := omega) only [go_sem, seval, reduceCtorEq, ↓reduceIte, beq_dec, Int.toNat_natCast, IntKind.signed, IntKind.bits, hge, hge2, hge4, yc, pc, Int.toNat_natCast, List.length_map, hkk2, s12, s3, s4, hbt, hbf, Bool.not_true]) | refine And.intro (fun hc => (?_ : AW _ _ _ _)) (fun hc => (?_ : AW _ _ _ _)) | simp (disch := omega) only [go_sem, seval, reduceCtorEq, ↓reduceIte, beq_dec, Int.toNat_natCast, IntKind.signed, IntKind.bits, hge, hge2, hge4, yc, pc, Int.toNat_natCast, List.length_map, hkk2, s12, s3, s4, hbt, hbf, Bool.not_true] | (refine And.intro ?_ ?_; focus (first | (intros; omega) | (intros; simp_all; done))) | refine And.intro (?_ : CallAt _ _ _ _ _ _ _ _) ?_ | refine And.intro (?_ : CallAt _ _ _ _ _ _ _ _ ∧ _) ?_ | refine And.intro (?_ : AW _ _ _ _) ?_ | fail))
              refine .mk (j + 1) ⟨by omega, by omega⟩ (by omega) ?_
              rw [hA', hk']
              simp (disch := omega) only [go_sem, seval, reduceCtorEq, ↓reduceIte, beq_dec, Int.toNat_natCast, IntKind.signed, IntKind.bits, Int.natCast_add, Int.natCast_one]
            · have s3 : ((A : Int) < ((ovs l).length : Int)) = False := eq_false (by omega)
              have hge4 := getD_map_ge pc (ovs l) A [] (by omega)
              (repeat' (first | refine NextAt.mk (fun hc => ?_) (fun pre n v post hc hkey => ?_) | refine Sni.mk (fun hc => ?_) ?_ | refine Both.mk ?_ ?_ | refine AW_seq ?_ | refine AW_block ?_ | ((first | refine AW_reg ?_ | refine AW_cond ?_ | refine AW_skip ?_ | refine AW_exit ?_ | refine AW_ret ?_ | refine AW_regD (by kernel_rfl) ?_ | refine AW_regX (by kernel_rfl) ?_ | refine CallAtG.t (Eq.refl true) ?_ | refine CallAtG.f (Eq.refl false) ?_ | refine CallAt.mk _ (g9 ..) (by first | (intro h; cases h; done) | (intro _; repeat' (first | exact List.forall_mem_nil _ | trivial | refine List.forall_mem_cons.2 ⟨?_, ?_⟩)) | (intro _; simp [RV.flatP, CD.flatP, hge, hge2, hge4, yc, pc, Int.toNat_natCast, List.length_map, hkk2, s12, s3, hbt, hbf, Bool.not_true]; done)) ?_ | refine CallAtG.mk _ (fun _ => g9 ..) ?_ | refine CallDS.mk _ (by simp [RV.data]) (fun _ => g9 ..) (by first | (intro h; cases h; done) | (intro _; repeat' (first | exact List.forall_mem_nil _ | trivial | refine List.forall_mem_cons.2 ⟨?_, ?_⟩)) | (intro _; simp [RV.flatP, CD.flatP, hge, hge2, hge4, yc, pc, Int.toNat_natCast, List.length_map, hkk2, s12, s3, hbt, hbf, Bool.not_true]; done)) ?_); try simp (disch := omega) only [go_sem, seval, reduceCtorEq, ↓reduceIte, beq_dec, Int.toNat_natCast, IntKind.signed, IntKind.bits, hge, hge2, hge4, yc, pc, Int.toNat_natCast, List.length_map, hkk2, s12, s3, hbt, hbf, Bool.not_true]) | refine And.intro (fun hc => (?_ : AW _ _ _ _)) (fun hc => (?_ : AW _ _ _ _)) | simp (disch := omega) only [go_sem, seval, reduceCtorEq, ↓reduceIte, beq_dec, Int.toNat_natCast, IntKind.signed, IntKind.bits, hge, hge2, hge4, yc, pc, Int.toNat_natCast, List.length_map, hkk2, s12, s3, hbt, hbf, Bool.not_true] | (refine And.intro ?_ ?_; focus (first | (intros; omega) | (intros; simp_all; done))) | refine And.intro (?_ : CallAt _ _ _ _ _ _ _ _) ?_ | refine And.intro (?_ : CallAt _ _ _ _ _ _ _ _ ∧ _) ?_ | refine And.intro (?_ : AW _ _ _ _) ?_ | fail))
              refine .mk (j + 1) ⟨by omega, by omega⟩ (by omega) ?_
              rw [hA', hk']
              simp (disch := omega) only [go_sem, seval, reduceCtorEq, ↓reduceIte, beq_dec, Int.toNat_natCast, IntKind.signed, IntKind.bits, Int.natCast_add, Int.natCast_one]
        · obtain rfl : j = l.length := by omega
          have hkk2 : ((l.length : Int) < (l.length : Int)) = False := eq_false (by omega)
          rw [← prO_i]
          (repeat' (first | refine NextAt.mk (fun hc => ?_) (fun pre n v post hc hkey => ?_) | refine Sni.mk (fun hc => ?_) ?_ | refine Both.mk ?_ ?_ | refine AW_seq ?_ | refine AW_block ?_ | ((first | refine AW_reg ?_ | refine AW_cond ?_ | refine AW_skip ?_ | refine AW_exit ?_ | refine AW_ret ?_ | refine AW_regD (by kernel_rfl) ?_ | refine AW_regX (by kernel_rfl) ?_ | refine CallAtG.t (Eq.refl true) ?_ | refine CallAtG.f (Eq.refl false) ?_); try simp (disch := omega) only [go_sem, seval, reduceCtorEq, ↓reduceIte, beq_dec, Int.toNat_natCast, IntKind.signed, IntKind.bits, List.length_map, hkk2]) | refine And.intro (fun hc => (?_ : AW _ _ _ _)) (fun hc => (?_ : AW _ _ _ _)) | simp (disch := omega) only [go_sem, seval, reduceCtorEq, ↓reduceIte, beq_dec, Int.toNat_natCast, IntKind.signed, IntKind.bits, List.length_map, hkk2] | (refine And.intro ?_ ?_; focus (first | (intros; omega) | (intros; simp_all; done))) | refine And.intro (?_ : CallAt _ _ _ _ _ _ _ _) ?_ | refine And.intro (?_ : CallAt _ _ _ _ _ _ _ _ ∧ _) ?_ | refine And.intro (?_ : AW _ _ _ _) ?_ | fail))
          refine .mk (i + 1) (by omega) (by omega) ?_
          simp (disch := omega) only [go_sem, seval, reduceCtorEq, ↓reduceIte, beq_dec, Int.toNat_natCast, IntKind.signed, IntKind.bits, Int.natCast_add, Int.natCast_one]
    · obtain rfl : i = l.length := by omega
      have hkk : ((l.length : Int) < (l.length : Int)) = False := eq_false (by omega)
      have hend : prO l l.length (l.length + 1) = ovs l := rfl
      rw [hend]
      (repeat' (first | refine NextAt.mk (fun hc => ?_) (fun pre n v post hc hkey => ?_) | refine Sni.mk (fun hc => ?_) ?_ | refine Both.mk ?_ ?_ | refine AW_seq ?_ | refine AW_block ?_ | ((first | refine AW_reg ?_ | refine AW_cond ?_ | refine AW_skip ?_ | refine AW_exit ?_ | refine AW_ret ?_ | refine AW_regD (by kernel_rfl) ?_ | refine AW_regX (by kernel_rfl) ?_ | refine CallAtG.t (Eq.refl true) ?_ | refine CallAtG.f (Eq.refl false) ?_); try simp (disch := omega) only [go_sem, seval, reduceCtorEq, ↓reduceIte, beq_dec, Int.toNat_natCast, IntKind.signed, IntKind.bits, List.length_map, hkk]) | refine And.intro (fun hc => (?_ : AW _ _ _ _)) (fun hc => (?_ : AW _ _ _ _)) | simp (disch := omega) only [go_sem, seval, reduceCtorEq, ↓reduceIte, beq_dec, Int.toNat_natCast, IntKind.signed, IntKind.bits, List.length_map, hkk] | (refine And.intro ?_ ?_; focus (first | (intros; omega) | (intros; simp_all; done))) | refine And.intro (?_ : CallAt _ _ _ _ _ _ _ _) ?_ | refine And.intro (?_ : CallAt _ _ _ _ _ _ _ _ ∧ _) ?_ | refine And.intro (?_ : AW _ _ _ _) ?_ | fail))
      have hm0 : mtC 9999 l C 0 = (-9999, 9999) := rfl
      refine AW_loopK [0, 3, 9, 11, 16] [2, 17, 18, 19, 136, 137, 138, 139, 140, 141, 142, 143, 144, 145, 146, 147, 148, 149, 150, 151, 152, 153, 154, 155, 156, 157, 158, 159, 160, 161, 162, 163, 164, 165, 166, 167, 168, 169, 170] (fun k : Nat => k ≤ C.length) (fun k => [(17, .I k)]) (fun k => [(16, .box 36 [.I (mtC 9999 l C k).1, .I (mtC 9999 l C k).2])]) (fun k => C.length - k) 0 (by omega) ?_ ?_
      · simp (disch := omega) only [go_sem, seval, reduceCtorEq, ↓reduceIte, beq_dec, Int.toNat_natCast, IntKind.signed, IntKind.bits, Int.natCast_zero, hm0]
      · intro k hk
        rcases Nat.lt_or_ge k C.length with hkl | hkl
        · have hkk2 : ((k : Int) < (C.length : Int)) = True := eq_true (by omega)
          have hge := getD_map nc C k [] hkl
          have hcl := hq.2 _ (nth_mem C k hkl)
          have s1 : (((nth C k : Nat) : Int) < 0) = False := eq_false (by omega)
          have s2 : ((l.length : Int) ≤ ((nth C k : Nat) : Int)) = False := eq_false (by omega)
          have hm1 := (hmt k hk).1
          have hm2 := (hmt (k + 1) (by omega)).1
          have hmm : mtC 9999 l C (k + 1) = mtY (mtC 9999 l C k) (nth l (nth C k)) := rfl
          have g10 := x10y (mtC 9999 l C k) (nth l (nth C k)) (vY_iff.2 hm1) (hv _ hcl) (vY_iff.2 (by rw [← hmm]; exact hm2))
          rw [← hmm] at g10
          have hr3 := r3 l C (ovs l).length k (mtC 9999 l C k) (mtC 9999 l C (k + 1)) hkl hcl g10
          generalize hM' : mtC 9999 l C (k + 1) = M' at *
          generalize mtC 9999 l C k = M at *
          (repeat' (first | (with_reducible refine hold3 ?_; try simp (disch := omega) only [go_sem, seval, reduceCtorEq, ↓reduceIte, beq_dec, Int.toNat_natCast, IntKind.signed, IntKind.bits, hge, nc, Int.toNat_natCast, List.length_map, hkk2, s1, s2]) | refine NextAt.mk (fun hc => ?_) (fun pre n v post hc hkey => ?_) | refine Sni.mk (fun hc => ?_) ?_ | refine Both.mk ?_ ?_ | refine AW_seq ?_ | refine AW_block ?_ | ((first | refine AW_reg ?_ | refine AW_cond ?_ | refine AW_skip ?_ | refine AW_exit ?_ | refine AW_ret ?_ | refine AW_regD (by kernel_rfl) ?_ | refine AW_regX (by kernel_rfl) ?_ | refine CallAtG.t (Eq.refl true) ?_ | refine CallAtG.f (Eq.refl false) ?_); try simp (disch := omega) only [go_sem, seval, reduceCtorEq, ↓reduceIte, beq_dec, Int.toNat_natCast, IntKind.signed, IntKind.bits, hge, nc, Int.toNat_natCast, List.length_map, hkk2, s1, s2]) | refine And.intro (fun hc => (?_ : AW _ _ _ _)) (fun hc => (?_ : AW _ _ _ _)) | simp (disch := omega) only [go_sem, seval, reduceCtorEq, ↓reduceIte, beq_dec, Int.toNat_natCast, IntKind.signed, IntKind.bits, hge, nc, Int.toNat_natCast, List.length_map, hkk2, s1, s2] | (refine And.intro ?_ ?_; focus (first | (intros; omega) | (intros; simp_all; done))) | refine And.intro (?_ : CallAt _ _ _ _ _ _ _ _) ?_ | refine And.intro (?_ : CallAt _ _ _ _ _ _ _ _ ∧ _) ?_ | refine And.intro (?_ : AW _ _ _ _) ?_ | fail))
          refine ⟨AW_cut (ou3 l C (ovs l).length k M M') (in3 l C (ovs l).length k M) hr3 ?_ ?_⟩
          · unfold in3
            simp (disch := omega) only [go_sem, seval, reduceCtorEq, ↓reduceIte, beq_dec, Int.toNat_natCast, IntKind.signed, IntKind.bits]
          · unfold ou3
            (repeat' (first | refine NextAt.mk (fun hc => ?_) (fun pre n v post hc hkey => ?_) | refine Sni.mk (fun hc => ?_) ?_ | refine Both.mk ?_ ?_ | refine AW_seq ?_ | refine AW_block ?_ | ((first | refine AW_reg ?_ | refine AW_cond ?_ | refine AW_skip ?_ | refine AW_exit ?_ | refine AW_ret ?_ | refine AW_regD (by kernel_rfl) ?_ | refine AW_regX (by kernel_rfl) ?_ | refine CallAtG.t (Eq.refl true) ?_ | refine CallAtG.f (Eq.refl false) ?_); try simp (disch := omega) only [go_sem, seval, reduceCtorEq, ↓reduceIte, beq_dec, Int.toNat_natCast, IntKind.signed, IntKind.bits]) | refine And.intro (fun hc => (?_ : AW _ _ _ _)) (fun hc => (?_ : AW _ _ _ _)) | simp (disch := omega) only [go_sem, seval, reduceCtorEq, ↓reduceIte, beq_dec, Int.toNat_natCast, IntKind.signed, IntKind.bits] | (refine And.intro ?_ ?_; focus (first | (intros; omega) | (intros; simp_all; done))) | refine And.intro (?_ : CallAt _ _ _ _ _ _ _ _) ?_ | refine And.intro (?_ : CallAt _ _ _ _ _ _ _ _ ∧ _) ?_ | refine And.intro (?_ : AW _ _ _ _) ?_ | fail))
            refine .mk (k + 1) (by omega) (by omega) ?_
            rw [hM']
            simp (disch := omega) only [go_sem, seval, reduceCtorEq, ↓reduceIte, beq_dec, Int.toNat_natCast, IntKind.signed, IntKind.bits, Int.natCast_add, Int.natCast_one]
        · obtain rfl : k = C.length := by omega
          have hkk2 : ((C.length : Int) < (C.length : Int)) = False := eq_false (by omega)
          (repeat' (first | refine NextAt.mk (fun hc => ?_) (fun pre n v post hc hkey => ?_) | refine Sni.mk (fun hc => ?_) ?_ | refine Both.mk ?_ ?_ | refine AW_seq ?_ | refine AW_block ?_ | ((first | refine AW_reg ?_ | refine AW_cond ?_ | refine AW_skip ?_ | refine AW_exit ?_ | refine AW_ret ?_ | refine AW_regD (by kernel_rfl) ?_ | refine AW_regX (by kernel_rfl) ?_ | refine CallAtG.t (Eq.refl true) ?_ | refine CallAtG.f (Eq.refl false) ?_); try simp (disch := omega) only [go_sem, seval, reduceCtorEq, ↓reduceIte, beq_dec, Int.toNat_natCast, IntKind.signed, IntKind.bits, List.length_map, hkk2]) | refine And.intro (fun hc => (?_ : AW _ _ _ _)) (fun hc => (?_ : AW _ _ _ _)) | simp (disch := omega) only [go_sem, seval, reduceCtorEq, ↓reduceIte, beq_dec, Int.toNat_natCast, IntKind.signed, IntKind.bits, List.length_map, hkk2] | (refine And.intro ?_ ?_; focus (first | (intros; omega) | (intros; simp_all; done))) | refine And.intro (?_ : CallAt _ _ _ _ _ _ _ _) ?_ | refine And.intro (?_ : CallAt _ _ _ _ _ _ _ _ ∧ _) ?_ | refine And.intro (?_ : AW _ _ _ _) ?_ | fail))
end Go.Proofs.Ytggcpnnmmcnogaa

-- P p_b.txt
open Go Go.AL Go.RowKit
namespace Go.Proofs.Ytggcpnnmmcnogaa
theorem Try.own : ownKnob Try.prog.godebug = none := by kernel_rfl
theorem Try.laidOut : laidOutB Try.prog = true := by kernel_rfl
theorem years_of {ds : List CD} {s : List Sh} (h : Ty (.sl [.int .i64, .int .i64] :: s) ds) : ∃ (l : List Yr) (r : List CD), ds = Yrs l :: r ∧ Ty s r := by
  obtain ⟨xs, r, e, hx, h'⟩ := h.sl_inv
  obtain ⟨l, rfl⟩ := map_of (f := yc) fun x hx' => by
    have h0 := hx x hx'
    obtain ⟨a1, _, rfl, _, h0⟩ := h0.int_inv
    obtain ⟨a2, _, rfl, _, h0⟩ := h0.int_inv
    obtain rfl := h0.nil_inv
    exact ⟨(a1, a2), rfl⟩
  exact ⟨l, r, e, h'⟩
theorem WholeBoxes_fn : ∀ xs, TyArgs [(false, [.sl [.int .i64, .int .i64]])] xs → FnR Try.prog 3 xs [.c (.B true)] := by
  intro xs h
  obtain ⟨d0, _, rfl, h0, h⟩ := h.cons_inv
  obtain rfl := h.nil_inv
  obtain ⟨l, _, rfl, g0⟩ := years_of h0
  obtain rfl := g0.nil_inv
  exact x3 l
theorem WholeBoxes_holds : Rows.WholeBoxesSaid :=
  OpenClaim.holds_of_wide 3 Try.f3 rfl rfl rfl rfl rfl rfl rfl ⟨rfl, rfl, rfl, rfl, rfl⟩ rfl rfl rfl rfl rfl (by kernel_rfl) Try.func3 (by kernel_rfl)
    (of_decide_eq_true (by kernel_rfl)) (by unfold Func.isWrapper; first | (rw [if_pos (by decide +kernel)]; kernel_rfl) | (rw [if_neg (by decide +kernel)]; exact ⟨rfl, rfl⟩))
    (fun os started H enc _ => law_lifted (s := Rows.wholeBoxesSpec) (C := Try.checked) (n := 12) Try.own Try.laidOut (by kernel_rfl) Try.func3 (by decide +kernel) rfl (by kernel_rfl) rfl (by kernel_rfl) (fun H ds h => by
      match ds, h with
      | [d1], _ => rfl) WholeBoxes_fn os started H enc
      (ChangeSpec.witness6 (enc := enc) (C := Try.checked) false ⟨#[], #[.slice none 0 0], []⟩ 12 (by kernel_rfl) (by kernel_rfl) (by kernel_rfl) (by kernel_rfl)))
end Go.Proofs.Ytggcpnnmmcnogaa

