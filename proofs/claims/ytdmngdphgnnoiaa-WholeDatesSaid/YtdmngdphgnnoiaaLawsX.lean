/-
  The dates of a chronology are the tightest bounds of its differences: every first and every last year is attained by a dating, and there is no dating exactly if a cycle of bounds refutes it.
-/
import Derived.Test.YtdmngdphgnnoiaaAlD
import Derived.Test.YtdmngdphgnnoiaaWalkH
import Derived.Test.YtdmngdphgnnoiaaRows
set_option linter.unusedVariables false
set_option linter.unusedSimpArgs false
open Go Go.AL Go.RowKit
namespace Go.Proofs.Ytdmngdphgnnoiaa
set_option maxRecDepth 20000
/- coinage/coinagetop.WholeDates -/
abbrev c3_1 : AC := .reg [⟨(some 1), .box 26 (some 3) (.t 0), none⟩,
  ⟨(some 2), .mv (.k (.B false)), none⟩] false
abbrev c3_2 : AC := .reg [⟨(some 29), .call 4 [], none⟩,
  ⟨(some 30), .not (.t 29), none⟩,
  ⟨(some 31), .mv (.t 30), none⟩,
  ⟨(some 32), .ld (some 3) (.t 1), (some (31, false))⟩,
  ⟨(some 33), .call 5 [(.t 32)], (some (31, false))⟩,
  ⟨(some 34), .not (.t 33), (some (31, false))⟩,
  ⟨(some 35), .pick (.t 31) (.k (.B true)) (.t 34), none⟩,
  ⟨(some 36), .mv (.t 35), none⟩,
  ⟨(some 37), .fad 0 (.t 1), (some (36, false))⟩,
  ⟨(some 38), .ld none (.t 37), (some (36, false))⟩,
  ⟨(some 39), .len (.t 38), (some (36, false))⟩,
  ⟨(some 40), .bin .gtr (.t 39) (.k (.I 8)), (some (36, false))⟩,
  ⟨(some 41), .pick (.t 36) (.k (.B true)) (.t 40), none⟩,
  ⟨(some 42), .mv (.t 41), none⟩,
  ⟨(some 43), .fad 1 (.t 1), (some (42, false))⟩,
  ⟨(some 44), .ld none (.t 43), (some (42, false))⟩,
  ⟨(some 45), .len (.t 44), (some (42, false))⟩,
  ⟨(some 46), .bin .gtr (.t 45) (.k (.I 6)), (some (42, false))⟩,
  ⟨(some 47), .pick (.t 42) (.k (.B true)) (.t 46), none⟩,
  ⟨(some 48), .mv (.t 47), none⟩,
  ⟨(some 49), .fad 2 (.t 1), (some (48, false))⟩,
  ⟨(some 50), .ld none (.t 49), (some (48, false))⟩,
  ⟨(some 51), .len (.t 50), (some (48, false))⟩,
  ⟨(some 52), .bin .gtr (.t 51) (.k (.I 16)), (some (48, false))⟩,
  ⟨(some 53), .pick (.t 48) (.k (.B true)) (.t 52), none⟩] false
abbrev c3_3 : AC := .reg [⟨(some 54), .call 4 [], none⟩,
  ⟨(some 2), .mv (.t 54), none⟩] false
abbrev c3_4 : AC := .seq c3_3 .ret
abbrev c3_5 : AC := .cond (.t 53) c3_4 .skip
abbrev c3_6 : AC := .seq c3_2 c3_5
abbrev c3_7 : AC := .reg [⟨(some 3), .mv (.k (.I 0)), none⟩] false
abbrev c3_8 : AC := .reg [⟨(some 55), .mv (.t 3), none⟩,
  ⟨(some 56), .fad 1 (.t 1), none⟩,
  ⟨(some 57), .ld none (.t 56), none⟩,
  ⟨(some 58), .len (.t 57), none⟩,
  ⟨(some 59), .bin .lss (.t 55) (.t 58), none⟩] false
abbrev c3_9 : AC := .cond (.t 59) .skip (.exit 0)
abbrev c3_10 : AC := .seq c3_8 c3_9
abbrev c3_11 : AC := .reg [⟨(some 62), .fad 1 (.t 1), none⟩,
  ⟨(some 63), .ld none (.t 62), none⟩,
  ⟨(some 64), .mv (.t 3), none⟩,
  ⟨(some 65), .iad 4 (.t 63) (.t 64), none⟩,
  ⟨(some 66), .ld (some 4) (.t 65), none⟩,
  ⟨(some 67), .call 6 [(.t 66)], none⟩,
  ⟨(some 68), .not (.t 67), none⟩,
  ⟨(some 69), .mv (.t 68), none⟩,
  ⟨(some 70), .fad 1 (.t 1), (some (69, false))⟩,
  ⟨(some 71), .ld none (.t 70), (some (69, false))⟩,
  ⟨(some 72), .mv (.t 3), (some (69, false))⟩,
  ⟨(some 73), .iad 4 (.t 71) (.t 72), (some (69, false))⟩,
  ⟨(some 74), .fad 1 (.t 73), (some (69, false))⟩,
  ⟨(some 75), .ld none (.t 74), (some (69, false))⟩,
  ⟨(some 76), .len (.t 75), (some (69, false))⟩,
  ⟨(some 77), .bin .gtr (.t 76) (.k (.I 8)), (some (69, false))⟩,
  ⟨(some 78), .pick (.t 69) (.k (.B true)) (.t 77), none⟩] false
abbrev c3_12 : AC := .reg [⟨(some 2), .mv (.k (.B false)), none⟩] false
abbrev c3_13 : AC := .seq c3_12 .ret
abbrev c3_14 : AC := .cond (.t 78) c3_13 .skip
abbrev c3_15 : AC := .seq c3_11 c3_14
abbrev c3_16 : AC := .reg [⟨(some 4), .mv (.k (.I 0)), none⟩] false
abbrev c3_17 : AC := .reg [⟨(some 79), .mv (.t 4), none⟩,
  ⟨(some 80), .fad 1 (.t 1), none⟩,
  ⟨(some 81), .ld none (.t 80), none⟩,
  ⟨(some 82), .mv (.t 3), none⟩,
  ⟨(some 83), .iad 4 (.t 81) (.t 82), none⟩,
  ⟨(some 84), .fad 1 (.t 83), none⟩,
  ⟨(some 85), .ld none (.t 84), none⟩,
  ⟨(some 86), .len (.t 85), none⟩,
  ⟨(some 87), .bin .lss (.t 79) (.t 86), none⟩] false
abbrev c3_18 : AC := .cond (.t 87) .skip (.exit 2)
abbrev c3_19 : AC := .seq c3_17 c3_18
abbrev c3_20 : AC := .reg [⟨(some 90), .fad 1 (.t 1), none⟩,
  ⟨(some 91), .ld none (.t 90), none⟩,
  ⟨(some 92), .mv (.t 3), none⟩,
  ⟨(some 93), .iad 4 (.t 91) (.t 92), none⟩,
  ⟨(some 94), .fad 1 (.t 93), none⟩,
  ⟨(some 95), .ld none (.t 94), none⟩,
  ⟨(some 96), .mv (.t 4), none⟩,
  ⟨(some 97), .iad 2 (.t 95) (.t 96), none⟩,
  ⟨(some 98), .fad 0 (.t 97), none⟩,
  ⟨(some 99), .ld none (.t 98), none⟩,
  ⟨(some 5), .mv (.t 99), none⟩] false
abbrev c3_21 : AC := .reg [⟨(some 100), .mv (.t 5), none⟩,
  ⟨(some 101), .fad 0 (.t 1), none⟩,
  ⟨(some 102), .ld none (.t 101), none⟩,
  ⟨(some 103), .len (.t 102), none⟩,
  ⟨(some 104), .bin .gtr (.t 100) (.t 103), none⟩,
  ⟨(some 105), .mv (.t 104), none⟩,
  ⟨(some 106), .fad 1 (.t 1), (some (105, false))⟩,
  ⟨(some 107), .ld none (.t 106), (some (105, false))⟩,
  ⟨(some 108), .mv (.t 3), (some (105, false))⟩,
  ⟨(some 109), .iad 4 (.t 107) (.t 108), (some (105, false))⟩,
  ⟨(some 110), .ld (some 4) (.t 109), (some (105, false))⟩,
  ⟨(some 111), .mv (.t 5), (some (105, false))⟩,
  ⟨(some 112), .call 7 [(.t 110), (.t 111)], (some (105, false))⟩,
  ⟨(some 113), .bin .lss (.t 112) (.k (.I 1)), (some (105, false))⟩,
  ⟨(some 114), .pick (.t 105) (.k (.B true)) (.t 113), none⟩] false
abbrev c3_22 : AC := .reg [⟨(some 2), .mv (.k (.B false)), none⟩] false
abbrev c3_23 : AC := .seq c3_22 .ret
abbrev c3_24 : AC := .cond (.t 114) c3_23 .skip
abbrev c3_25 : AC := .seq c3_21 c3_24
abbrev c3_26 : AC := .seq c3_20 c3_25
abbrev c3_27 : AC := .block 3 c3_26
abbrev c3_28 : AC := .reg [⟨(some 88), .mv (.t 4), none⟩,
  ⟨(some 89), .bin .add (.t 88) (.k (.I 1)), none⟩,
  ⟨(some 4), .mv (.t 89), none⟩] false
abbrev c3_29 : AC := .seq c3_27 c3_28
abbrev c3_30 : AC := .seq c3_19 c3_29
abbrev c3_31 : AC := .loop c3_30
abbrev c3_32 : AC := .block 2 c3_31
abbrev c3_33 : AC := .seq c3_16 c3_32
abbrev c3_34 : AC := .seq c3_15 c3_33
abbrev c3_35 : AC := .block 1 c3_34
abbrev c3_36 : AC := .reg [⟨(some 60), .mv (.t 3), none⟩,
  ⟨(some 61), .bin .add (.t 60) (.k (.I 1)), none⟩,
  ⟨(some 3), .mv (.t 61), none⟩] false
abbrev c3_37 : AC := .seq c3_35 c3_36
abbrev c3_38 : AC := .seq c3_10 c3_37
abbrev c3_39 : AC := .loop c3_38
abbrev c3_40 : AC := .block 0 c3_39
abbrev c3_41 : AC := .seq c3_7 c3_40
abbrev c3_42 : AC := .reg [⟨(some 115), .ld (some 3) (.t 1), none⟩,
  ⟨(some 116), .call 8 [(.t 115)], none⟩,
  ⟨(some 6), .mv (.t 116), none⟩] false
abbrev c3_43 : AC := .reg [⟨(some 117), .fad 0 (.t 1), none⟩,
  ⟨(some 118), .ld none (.t 117), none⟩,
  ⟨(some 119), .len (.t 118), none⟩,
  ⟨(some 120), .bin .add (.k (.I 1)) (.t 119), none⟩,
  ⟨(some 121), .fad 1 (.t 1), none⟩,
  ⟨(some 122), .ld none (.t 121), none⟩,
  ⟨(some 123), .len (.t 122), none⟩,
  ⟨(some 124), .bin .add (.t 120) (.t 123), none⟩,
  ⟨(some 7), .mv (.t 124), none⟩] false
abbrev c3_44 : AC := .reg [⟨(some 125), .mv (.t 7), none⟩,
  ⟨(some 126), .mv (.t 6), none⟩,
  ⟨(some 127), .call 9 [(.t 125), (.t 126)], none⟩,
  ⟨(some 128), .not (.t 127), none⟩] false
abbrev c3_45 : AC := .reg [⟨(some 129), .mv (.t 6), none⟩,
  ⟨(some 130), .len (.t 129), none⟩,
  ⟨(some 131), .bin .gtr (.t 130) (.k (.I 80)), none⟩,
  ⟨(some 2), .mv (.t 131), none⟩] false
abbrev c3_46 : AC := .seq c3_45 .ret
abbrev c3_47 : AC := .cond (.t 128) c3_46 .skip
abbrev c3_48 : AC := .seq c3_44 c3_47
abbrev c3_49 : AC := .reg [⟨(some 133), .ld (some 3) (.t 1), none⟩,
  ⟨(some 134), .call 10 [(.t 133)], none⟩,
  ⟨(some 132), .mv (.t 134), none⟩,
  ⟨(some 135), .ext (.t 132) 0, none⟩,
  ⟨(some 136), .ext (.t 132) 1, none⟩,
  ⟨(some 137), .ext (.t 132) 2, none⟩,
  ⟨(some 8), .mv (.t 135), none⟩,
  ⟨(some 9), .mv (.t 136), none⟩,
  ⟨(some 10), .mv (.t 137), none⟩] false
abbrev c3_50 : AC := .reg [⟨(some 139), .mv (.t 7), none⟩,
  ⟨(some 140), .mv (.t 6), none⟩,
  ⟨(some 141), .call 11 [(.t 139), (.t 140)], none⟩,
  ⟨(some 138), .mv (.t 141), none⟩,
  ⟨(some 142), .ext (.t 138) 0, none⟩,
  ⟨(some 143), .ext (.t 138) 1, none⟩,
  ⟨(some 11), .mv (.t 142), none⟩,
  ⟨(some 12), .mv (.t 143), none⟩] false
abbrev c3_51 : AC := .reg [⟨(some 144), .mv (.t 10), none⟩,
  ⟨(some 145), .bin .neq (.t 144) (.k (.I 0)), none⟩] false
abbrev c3_52 : AC := .reg [⟨(some 146), .mv (.t 10), none⟩,
  ⟨(some 147), .bin .eql (.t 146) (.k (.I 10)), none⟩,
  ⟨(some 148), .mv (.t 147), none⟩,
  ⟨(some 149), .mv (.t 12), (some (148, true))⟩,
  ⟨(some 150), .bin .eql (.t 149) (.k (.I 0)), (some (148, true))⟩,
  ⟨(some 151), .pick (.t 148) (.t 150) (.k (.B false)), none⟩,
  ⟨(some 152), .mv (.t 151), none⟩,
  ⟨(some 153), .mv (.t 7), (some (152, true))⟩,
  ⟨(some 154), .mv (.t 6), (some (152, true))⟩,
  ⟨(some 155), .mv (.t 11), (some (152, true))⟩,
  ⟨(some 156), .call 12 [(.t 153), (.t 154), (.t 155)], (some (152, true))⟩,
  ⟨(some 157), .pick (.t 152) (.t 156) (.k (.B false)), none⟩,
  ⟨(some 2), .mv (.t 157), none⟩] false
abbrev c3_53 : AC := .seq c3_52 .ret
abbrev c3_54 : AC := .cond (.t 145) c3_53 .skip
abbrev c3_55 : AC := .seq c3_51 c3_54
abbrev c3_56 : AC := .reg [⟨(some 159), .ld (some 3) (.t 1), none⟩,
  ⟨(some 160), .call 13 [(.t 159)], none⟩,
  ⟨(some 158), .mv (.t 160), none⟩,
  ⟨(some 161), .ext (.t 158) 0, none⟩,
  ⟨(some 162), .ext (.t 158) 1, none⟩,
  ⟨(some 163), .ext (.t 158) 2, none⟩,
  ⟨(some 13), .mv (.t 161), none⟩,
  ⟨(some 14), .mv (.t 162), none⟩,
  ⟨(some 15), .mv (.t 163), none⟩] false
abbrev c3_57 : AC := .reg [⟨(some 165), .ld (some 3) (.t 1), none⟩,
  ⟨(some 166), .call 14 [(.t 165)], none⟩,
  ⟨(some 164), .mv (.t 166), none⟩,
  ⟨(some 167), .ext (.t 164) 0, none⟩,
  ⟨(some 168), .ext (.t 164) 1, none⟩,
  ⟨(some 169), .ext (.t 164) 2, none⟩,
  ⟨(some 16), .mv (.t 167), none⟩,
  ⟨(some 17), .mv (.t 168), none⟩,
  ⟨(some 18), .mv (.t 169), none⟩] false
abbrev c3_58 : AC := .reg [⟨(some 170), .mv (.t 12), none⟩,
  ⟨(some 171), .bin .neq (.t 170) (.k (.I 7)), none⟩,
  ⟨(some 172), .mv (.t 171), none⟩,
  ⟨(some 173), .mv (.t 15), (some (172, false))⟩,
  ⟨(some 174), .bin .neq (.t 173) (.k (.I 0)), (some (172, false))⟩,
  ⟨(some 175), .pick (.t 172) (.k (.B true)) (.t 174), none⟩,
  ⟨(some 176), .mv (.t 175), none⟩,
  ⟨(some 177), .mv (.t 18), (some (176, false))⟩,
  ⟨(some 178), .bin .neq (.t 177) (.k (.I 0)), (some (176, false))⟩,
  ⟨(some 179), .pick (.t 176) (.k (.B true)) (.t 178), none⟩,
  ⟨(some 180), .mv (.t 179), none⟩,
  ⟨(some 181), .mv (.t 8), (some (180, false))⟩,
  ⟨(some 182), .len (.t 181), (some (180, false))⟩,
  ⟨(some 183), .fad 0 (.t 1), (some (180, false))⟩,
  ⟨(some 184), .ld none (.t 183), (some (180, false))⟩,
  ⟨(some 185), .len (.t 184), (some (180, false))⟩,
  ⟨(some 186), .bin .neq (.t 182) (.t 185), (some (180, false))⟩,
  ⟨(some 187), .pick (.t 180) (.k (.B true)) (.t 186), none⟩,
  ⟨(some 188), .mv (.t 187), none⟩,
  ⟨(some 189), .mv (.t 9), (some (188, false))⟩,
  ⟨(some 190), .len (.t 189), (some (188, false))⟩,
  ⟨(some 191), .fad 1 (.t 1), (some (188, false))⟩,
  ⟨(some 192), .ld none (.t 191), (some (188, false))⟩,
  ⟨(some 193), .len (.t 192), (some (188, false))⟩,
  ⟨(some 194), .bin .neq (.t 190) (.t 193), (some (188, false))⟩,
  ⟨(some 195), .pick (.t 188) (.k (.B true)) (.t 194), none⟩,
  ⟨(some 196), .mv (.t 195), none⟩,
  ⟨(some 197), .mv (.t 13), (some (196, false))⟩,
  ⟨(some 198), .len (.t 197), (some (196, false))⟩,
  ⟨(some 199), .mv (.t 8), (some (196, false))⟩,
  ⟨(some 200), .len (.t 199), (some (196, false))⟩,
  ⟨(some 201), .bin .neq (.t 198) (.t 200), (some (196, false))⟩,
  ⟨(some 202), .pick (.t 196) (.k (.B true)) (.t 201), none⟩,
  ⟨(some 203), .mv (.t 202), none⟩,
  ⟨(some 204), .mv (.t 16), (some (203, false))⟩,
  ⟨(some 205), .len (.t 204), (some (203, false))⟩,
  ⟨(some 206), .mv (.t 8), (some (203, false))⟩,
  ⟨(some 207), .len (.t 206), (some (203, false))⟩,
  ⟨(some 208), .bin .neq (.t 205) (.t 207), (some (203, false))⟩,
  ⟨(some 209), .pick (.t 203) (.k (.B true)) (.t 208), none⟩,
  ⟨(some 210), .mv (.t 209), none⟩,
  ⟨(some 211), .mv (.t 14), (some (210, false))⟩,
  ⟨(some 212), .len (.t 211), (some (210, false))⟩,
  ⟨(some 213), .mv (.t 9), (some (210, false))⟩,
  ⟨(some 214), .len (.t 213), (some (210, false))⟩,
  ⟨(some 215), .bin .neq (.t 212) (.t 214), (some (210, false))⟩,
  ⟨(some 216), .pick (.t 210) (.k (.B true)) (.t 215), none⟩,
  ⟨(some 217), .mv (.t 216), none⟩,
  ⟨(some 218), .mv (.t 17), (some (217, false))⟩,
  ⟨(some 219), .len (.t 218), (some (217, false))⟩,
  ⟨(some 220), .mv (.t 9), (some (217, false))⟩,
  ⟨(some 221), .len (.t 220), (some (217, false))⟩,
  ⟨(some 222), .bin .neq (.t 219) (.t 221), (some (217, false))⟩,
  ⟨(some 223), .pick (.t 217) (.k (.B true)) (.t 222), none⟩,
  ⟨(some 224), .mv (.t 223), none⟩,
  ⟨(some 225), .ld (some 3) (.t 1), (some (224, false))⟩,
  ⟨(some 226), .mv (.t 13), (some (224, false))⟩,
  ⟨(some 227), .mv (.t 14), (some (224, false))⟩,
  ⟨(some 228), .call 15 [(.t 225), (.t 226), (.t 227)], (some (224, false))⟩,
  ⟨(some 229), .not (.t 228), (some (224, false))⟩,
  ⟨(some 230), .pick (.t 224) (.k (.B true)) (.t 229), none⟩,
  ⟨(some 231), .mv (.t 230), none⟩,
  ⟨(some 232), .ld (some 3) (.t 1), (some (231, false))⟩,
  ⟨(some 233), .mv (.t 16), (some (231, false))⟩,
  ⟨(some 234), .mv (.t 17), (some (231, false))⟩,
  ⟨(some 235), .call 15 [(.t 232), (.t 233), (.t 234)], (some (231, false))⟩,
  ⟨(some 236), .not (.t 235), (some (231, false))⟩,
  ⟨(some 237), .pick (.t 231) (.k (.B true)) (.t 236), none⟩] false
abbrev c3_59 : AC := .reg [⟨(some 2), .mv (.k (.B false)), none⟩] false
abbrev c3_60 : AC := .seq c3_59 .ret
abbrev c3_61 : AC := .cond (.t 237) c3_60 .skip
abbrev c3_62 : AC := .seq c3_58 c3_61
abbrev c3_63 : AC := .reg [⟨(some 238), .bslice 32 2 [], none⟩,
  ⟨(some 239), .mv (.t 8), none⟩,
  ⟨(some 240), .app 32 2 16 (.t 238) (.t 239), none⟩,
  ⟨(some 241), .mv (.t 9), none⟩,
  ⟨(some 242), .app 32 2 16 (.t 240) (.t 241), none⟩,
  ⟨(some 19), .mv (.t 242), none⟩] false
abbrev c3_64 : AC := .reg [⟨(some 243), .bslice 3 1 [], none⟩,
  ⟨(some 244), .mv (.t 13), none⟩,
  ⟨(some 245), .app 3 1 8 (.t 243) (.t 244), none⟩,
  ⟨(some 246), .mv (.t 14), none⟩,
  ⟨(some 247), .app 3 1 8 (.t 245) (.t 246), none⟩,
  ⟨(some 20), .mv (.t 247), none⟩] false
abbrev c3_65 : AC := .reg [⟨(some 248), .bslice 3 1 [], none⟩,
  ⟨(some 249), .mv (.t 16), none⟩,
  ⟨(some 250), .app 3 1 8 (.t 248) (.t 249), none⟩,
  ⟨(some 251), .mv (.t 17), none⟩,
  ⟨(some 252), .app 3 1 8 (.t 250) (.t 251), none⟩,
  ⟨(some 21), .mv (.t 252), none⟩] false
abbrev c3_66 : AC := .reg [⟨(some 22), .mv (.k (.I 0)), none⟩] false
abbrev c3_67 : AC := .reg [⟨(some 253), .mv (.t 22), none⟩,
  ⟨(some 254), .mv (.t 19), none⟩,
  ⟨(some 255), .len (.t 254), none⟩,
  ⟨(some 256), .bin .lss (.t 253) (.t 255), none⟩] false
abbrev c3_68 : AC := .cond (.t 256) .skip (.exit 4)
abbrev c3_69 : AC := .seq c3_67 c3_68
abbrev c3_70 : AC := .reg [⟨(some 260), .mv (.t 7), none⟩,
  ⟨(some 261), .mv (.t 6), none⟩,
  ⟨(some 262), .mv (.t 22), none⟩,
  ⟨(some 263), .bin .add (.t 262) (.k (.I 1)), none⟩,
  ⟨(some 264), .call 16 [(.t 260), (.t 261), (.k (.I 0)), (.t 263)], none⟩,
  ⟨(some 259), .mv (.t 264), none⟩,
  ⟨(some 265), .ext (.t 259) 0, none⟩,
  ⟨(some 266), .ext (.t 259) 1, none⟩,
  ⟨(some 267), .ext (.t 259) 2, none⟩,
  ⟨(some 23), .mv (.t 265), none⟩,
  ⟨(some 24), .mv (.t 266), none⟩,
  ⟨(some 25), .mv (.t 267), none⟩] false
abbrev c3_71 : AC := .reg [⟨(some 269), .mv (.t 7), none⟩,
  ⟨(some 270), .mv (.t 6), none⟩,
  ⟨(some 271), .mv (.t 22), none⟩,
  ⟨(some 272), .bin .add (.t 271) (.k (.I 1)), none⟩,
  ⟨(some 273), .call 16 [(.t 269), (.t 270), (.t 272), (.k (.I 0))], none⟩,
  ⟨(some 268), .mv (.t 273), none⟩,
  ⟨(some 274), .ext (.t 268) 0, none⟩,
  ⟨(some 275), .ext (.t 268) 1, none⟩,
  ⟨(some 276), .ext (.t 268) 2, none⟩,
  ⟨(some 26), .mv (.t 274), none⟩,
  ⟨(some 27), .mv (.t 275), none⟩,
  ⟨(some 28), .mv (.t 276), none⟩] false
abbrev c3_72 : AC := .reg [⟨(some 277), .mv (.t 24), none⟩,
  ⟨(some 278), .not (.t 277), none⟩,
  ⟨(some 279), .mv (.t 278), none⟩,
  ⟨(some 280), .mv (.t 27), (some (279, false))⟩,
  ⟨(some 281), .not (.t 280), (some (279, false))⟩,
  ⟨(some 282), .pick (.t 279) (.k (.B true)) (.t 281), none⟩,
  ⟨(some 283), .mv (.t 282), none⟩,
  ⟨(some 284), .mv (.t 25), (some (283, false))⟩,
  ⟨(some 285), .bin .neq (.t 284) (.k (.I 0)), (some (283, false))⟩,
  ⟨(some 286), .pick (.t 283) (.k (.B true)) (.t 285), none⟩,
  ⟨(some 287), .mv (.t 286), none⟩,
  ⟨(some 288), .mv (.t 28), (some (287, false))⟩,
  ⟨(some 289), .bin .neq (.t 288) (.k (.I 0)), (some (287, false))⟩,
  ⟨(some 290), .pick (.t 287) (.k (.B true)) (.t 289), none⟩,
  ⟨(some 291), .mv (.t 290), none⟩,
  ⟨(some 292), .mv (.t 19), (some (291, false))⟩,
  ⟨(some 293), .mv (.t 22), (some (291, false))⟩,
  ⟨(some 294), .iad 2 (.t 292) (.t 293), (some (291, false))⟩,
  ⟨(some 295), .ld (some 2) (.t 294), (some (291, false))⟩,
  ⟨(some 296), .mv (.t 26), (some (291, false))⟩,
  ⟨(some 297), .neg (.t 296), (some (291, false))⟩,
  ⟨(some 298), .mv (.t 23), (some (291, false))⟩,
  ⟨(some 299), .build [(.I 0), (.I 0)] [(0, 1, (.t 297)), (1, 1, (.t 298))], (some (291, false))⟩,
  ⟨(some 300), .eqs true [false, false] (.t 295) (.t 299), (some (291, false))⟩,
  ⟨(some 301), .pick (.t 291) (.k (.B true)) (.t 300), none⟩,
  ⟨(some 302), .mv (.t 301), none⟩,
  ⟨(some 303), .mv (.t 20), (some (302, false))⟩,
  ⟨(some 304), .mv (.t 22), (some (302, false))⟩,
  ⟨(some 305), .iad 1 (.t 303) (.t 304), (some (302, false))⟩,
  ⟨(some 306), .ld none (.t 305), (some (302, false))⟩,
  ⟨(some 307), .mv (.t 26), (some (302, false))⟩,
  ⟨(some 308), .neg (.t 307), (some (302, false))⟩,
  ⟨(some 309), .bin .neq (.t 306) (.t 308), (some (302, false))⟩,
  ⟨(some 310), .pick (.t 302) (.k (.B true)) (.t 309), none⟩,
  ⟨(some 311), .mv (.t 310), none⟩,
  ⟨(some 312), .mv (.t 21), (some (311, false))⟩,
  ⟨(some 313), .mv (.t 22), (some (311, false))⟩,
  ⟨(some 314), .iad 1 (.t 312) (.t 313), (some (311, false))⟩,
  ⟨(some 315), .ld none (.t 314), (some (311, false))⟩,
  ⟨(some 316), .mv (.t 23), (some (311, false))⟩,
  ⟨(some 317), .bin .neq (.t 315) (.t 316), (some (311, false))⟩,
  ⟨(some 318), .pick (.t 311) (.k (.B true)) (.t 317), none⟩] false
abbrev c3_73 : AC := .reg [⟨(some 2), .mv (.k (.B false)), none⟩] false
abbrev c3_74 : AC := .seq c3_73 .ret
abbrev c3_75 : AC := .cond (.t 318) c3_74 .skip
abbrev c3_76 : AC := .seq c3_72 c3_75
abbrev c3_77 : AC := .seq c3_71 c3_76
abbrev c3_78 : AC := .seq c3_70 c3_77
abbrev c3_79 : AC := .block 5 c3_78
abbrev c3_80 : AC := .reg [⟨(some 257), .mv (.t 22), none⟩,
  ⟨(some 258), .bin .add (.t 257) (.k (.I 1)), none⟩,
  ⟨(some 22), .mv (.t 258), none⟩] false
abbrev c3_81 : AC := .seq c3_79 c3_80
abbrev c3_82 : AC := .seq c3_69 c3_81
abbrev c3_83 : AC := .loop c3_82
abbrev c3_84 : AC := .block 4 c3_83
abbrev c3_85 : AC := .seq c3_66 c3_84
abbrev c3_86 : AC := .reg [⟨(some 2), .mv (.k (.B true)), none⟩] false
abbrev c3_87 : AC := .seq c3_86 .ret
abbrev c3_88 : AC := .seq c3_85 c3_87
abbrev c3_89 : AC := .seq c3_65 c3_88
abbrev c3_90 : AC := .seq c3_64 c3_89
abbrev c3_91 : AC := .seq c3_63 c3_90
abbrev c3_92 : AC := .seq c3_62 c3_91
abbrev c3_93 : AC := .seq c3_57 c3_92
abbrev c3_94 : AC := .seq c3_56 c3_93
abbrev c3_95 : AC := .seq c3_55 c3_94
abbrev c3_96 : AC := .seq c3_50 c3_95
abbrev c3_97 : AC := .seq c3_49 c3_96
abbrev c3_98 : AC := .seq c3_48 c3_97
abbrev c3_99 : AC := .seq c3_43 c3_98
abbrev c3_100 : AC := .seq c3_42 c3_99
abbrev c3_101 : AC := .seq c3_41 c3_100
abbrev c3_102 : AC := .seq c3_6 c3_101
abbrev c3_103 : AC := .seq c3_1 c3_102
abbrev c3 : AC := c3_103
theorem code3 : fnCode Try.prog 3 = some (c3, [2], 319) := by kernel_rfl
def s3 (c : Ch) : St := ⟨319, [(1, .ptr 1 0)], [(1, bx8 c)]⟩
set_option maxHeartbeats 8000000 in
theorem z1 (c : Ch) (hv : vC c = true) : AW Try.prog c3_41 (cutQ (s3 c)) (s3 c) := by
  have hlen := vC_len hv
  unfold s3
  (repeat' (first | refine Both.mk ?_ ?_ | ((first | refine aw ?_ | refine aD ?_ | refine aX ?_ | refine cT ?_ | refine cF ?_); try simp (disch := omega) only [go_sem, seval, reduceCtorEq]) | refine aI (fun hc => ?_) fun hc => ?_ | simp (disch := omega) only [go_sem, seval, reduceCtorEq] | refine aO ?_ | refine aA ?_ ?_ | fail))
  refine AW_loopK [1] [2, 3, 4, 5, 55, 56, 57, 58, 59, 60, 61, 62, 63, 64, 65, 66, 67, 68, 69, 70, 71, 72, 73, 74, 75, 76, 77, 78, 79, 80, 81, 82, 83, 84, 85, 86, 87, 88, 89, 90, 91, 92, 93, 94, 95, 96, 97, 98, 99, 100, 101, 102, 103, 104, 105, 106, 107, 108, 109, 110, 111, 112, 113, 114] (fun i : Nat => i ≤ c.ho.length) (fun i => [(3, .I (i : Int))]) (fun _ => []) (fun i => c.ho.length - i) 0 (by omega) ?_ ?_
  · simp (disch := omega) only [go_sem, seval, reduceCtorEq, Int.natCast_zero]
  · intro i hi
    rcases Nat.lt_or_ge i c.ho.length with hil | hil
    · have hkk : ((i : Int) < (c.ho.length : Int)) = True := eq_true (by omega)
      have hvh := (vC_ho hv hil).1
      have hco := vC_coins hv hil
      have hkey := fun k => vC_key hv hil (k := k)
      have hge : (c.ho.map hdc).getD i [] = hdc (nth c.ho i) := getD_map hdc c.ho i [] hil
      generalize nth c.ho i = h at *
      have g6 := x6 h hvh
      have h8 : ((h.cs.length : Int) > 8) = False := eq_false (by omega)
      (repeat' (first | refine Both.mk ?_ ?_ | ((first | refine aw ?_ | refine aD ?_ | refine aX ?_ | refine cT ?_ | refine cF ?_ | refine cR (g6 ..) ?_ | refine cG (g6 ..) ?_); try simp (disch := omega) only [go_sem, seval, reduceCtorEq, hkk, hge, h8, List.length_map, Int.toNat_natCast]) | refine aI (fun hc => ?_) fun hc => ?_ | simp (disch := omega) only [go_sem, seval, reduceCtorEq, hkk, hge, h8, List.length_map, Int.toNat_natCast] | refine aO ?_ | refine aC ?_ ?_ | refine aC' ?_ ?_ | refine aA ?_ ?_ | fail))
      all_goals first | omega | skip
      refine AW_loopK [1, 3] [2, 4, 5, 79, 80, 81, 82, 83, 84, 85, 86, 87, 88, 89, 90, 91, 92, 93, 94, 95, 96, 97, 98, 99, 100, 101, 102, 103, 104, 105, 106, 107, 108, 109, 110, 111, 112, 113, 114] (fun k : Nat => k ≤ h.cs.length) (fun k => [(4, .I (k : Int))]) (fun _ => []) (fun k => h.cs.length - k) 0 (by omega) ?_ ?_
      · simp (disch := omega) only [go_sem, seval, reduceCtorEq, Int.natCast_zero]
      · intro k hk
        rcases Nat.lt_or_ge k h.cs.length with hkl | hkl
        · have hk2 : ((k : Int) < (h.cs.length : Int)) = True := eq_true (by omega)
          have g7 := x7 h hvh k hkl
          obtain ⟨q1, q2⟩ := hkey k hkl
          have hin := lst_in (vH_iff.1 hvh).2.2.1 k hkl
          have hge2 : (h.cs.map yc).getD k [] = yc (nth h.cs k) := getD_map yc h.cs k [] hkl
          have h9 : ((nth h.cs k).1 > (c.ty.length : Int)) = False := eq_false (by omega)
          have h10 : ((nth h.cs k).2 < 1) = False := eq_false (by omega)
          (repeat' (first | refine Both.mk ?_ ?_ | ((first | refine aw ?_ | refine aD ?_ | refine aX ?_ | refine cT ?_ | refine cF ?_ | refine cR (g7 ..) ?_ | refine cG (g7 ..) ?_); try simp (disch := omega) only [go_sem, seval, reduceCtorEq, hkk, hk2, hge, hge2, h9, h10, List.length_map, Int.toNat_natCast]) | refine aI (fun hc => ?_) fun hc => ?_ | simp (disch := omega) only [go_sem, seval, reduceCtorEq, hkk, hk2, hge, hge2, h9, h10, List.length_map, Int.toNat_natCast] | refine aO ?_ | refine aC ?_ ?_ | refine aC' ?_ ?_ | refine aA ?_ ?_ | fail))
          all_goals first | omega | skip
          refine .mk (k + 1) (by omega) (by omega) ?_
          simp (disch := omega) only [go_sem, seval, reduceCtorEq, Int.natCast_add, Int.natCast_one]
        · obtain rfl : k = h.cs.length := by omega
          have hk2 : ((h.cs.length : Int) < (h.cs.length : Int)) = False := eq_false (by omega)
          (repeat' (first | refine Both.mk ?_ ?_ | ((first | refine aw ?_ | refine aD ?_ | refine aX ?_ | refine cT ?_ | refine cF ?_); try simp (disch := omega) only [go_sem, seval, reduceCtorEq, hkk, hk2, hge, List.length_map, Int.toNat_natCast]) | refine aI (fun hc => ?_) fun hc => ?_ | simp (disch := omega) only [go_sem, seval, reduceCtorEq, hkk, hk2, hge, List.length_map, Int.toNat_natCast] | refine aO ?_ | refine aA ?_ ?_ | fail))
          all_goals first | omega | skip
          refine .mk (i + 1) (by omega) (by omega) ?_
          simp (disch := omega) only [go_sem, seval, reduceCtorEq, Int.natCast_add, Int.natCast_one]
    · obtain rfl : i = c.ho.length := by omega
      have hkk : ((c.ho.length : Int) < (c.ho.length : Int)) = False := eq_false (by omega)
      (repeat' (first | refine Both.mk ?_ ?_ | ((first | refine aw ?_ | refine aD ?_ | refine aX ?_ | refine cT ?_ | refine cF ?_); try simp (disch := omega) only [go_sem, seval, reduceCtorEq, hkk, List.length_map]) | refine aI (fun hc => ?_) fun hc => ?_ | simp (disch := omega) only [go_sem, seval, reduceCtorEq, hkk, List.length_map] | refine aO ?_ | refine aA ?_ ?_ | fail))
end Go.Proofs.Ytdmngdphgnnoiaa

open Go Go.AL Go.RowKit
namespace Go.Proofs.Ytdmngdphgnnoiaa
set_option maxRecDepth 20000
theorem h3_99 {Q : Exit → St → Prop} {σ : St} (h : Hold (AW Try.prog c3_99 Q σ)) : AW Try.prog c3_99 Q σ := h.out
theorem h3_98 {Q : Exit → St → Prop} {σ : St} (h : Hold (AW Try.prog c3_98 Q σ)) : AW Try.prog c3_98 Q σ := h.out
theorem h3_91 {Q : Exit → St → Prop} {σ : St} (h : Hold (AW Try.prog c3_91 Q σ)) : AW Try.prog c3_91 Q σ := h.out
theorem h3_88 {Q : Exit → St → Prop} {σ : St} (h : Hold (AW Try.prog c3_88 Q σ)) : AW Try.prog c3_88 Q σ := h.out
theorem bnd_len {c : Ch} (hv : vC c = true) : (bnd c).length ≤ 1000 := by
  have h1 := bH_len c hv c.ho.length (Nat.le_refl _)
  have h2 := vC_len hv
  unfold bnd
  rw [List.length_append, List.length_append, bT_len, List.length_map]
  omega
theorem nV_int (c : Ch) : (1 : Int) + (c.ty.length : Int) + (c.ho.length : Int) = ((nV c : Nat) : Int) := by unfold nV; omega
def s3b (c : Ch) : St := ⟨319, [(1, .ptr 1 0), (6, .c (Bds (bnd c))), (7, .I (nV c : Int))], [(1, bx8 c)]⟩
set_option maxHeartbeats 8000000 in
theorem z2 (c : Ch) (hv : vC c = true) (h : AW Try.prog c3_98 (retQ [2] [.c (.B true)]) (s3b c)) : AW Try.prog c3_100 (retQ [2] [.c (.B true)]) (s3 c) := by
  have hl := bnd_len hv
  have hln := vC_len hv
  have hn := nV_int c
  have g8 := x8 c hv
  unfold s3
  (repeat' (first | (with_reducible refine h3_99 ?_) | refine Both.mk ?_ ?_ | ((first | refine aw ?_ | refine aD ?_ | refine aX ?_ | refine cT ?_ | refine cF ?_ | refine cR (g8 ..) ?_ | refine cG (g8 ..) ?_); try simp (disch := omega) only [go_sem, seval, reduceCtorEq]) | refine aI (fun hc => ?_) fun hc => ?_ | simp (disch := omega) only [go_sem, seval, reduceCtorEq] | refine aO ?_ | refine aC ?_ ?_ | refine aC' ?_ ?_ | refine aA ?_ ?_ | fail))
  refine ⟨AW_frz [116] ?_⟩
  simp (disch := omega) only [go_sem, seval, reduceCtorEq]
  (repeat' (first | (with_reducible refine h3_98 ?_) | refine Both.mk ?_ ?_ | ((first | refine aw ?_ | refine aD ?_ | refine aX ?_ | refine cT ?_ | refine cF ?_); try simp (disch := omega) only [go_sem, seval, reduceCtorEq, List.length_map, hn]) | refine aI (fun hc => ?_) fun hc => ?_ | simp (disch := omega) only [go_sem, seval, reduceCtorEq, List.length_map, hn] | refine aO ?_ | refine aA ?_ ?_ | fail))
  all_goals first | omega | skip
  refine ⟨AW_le (s3b c) ?_ h⟩
  unfold s3b
  simp (disch := omega) only [go_sem, seval, reduceCtorEq]
set_option maxHeartbeats 8000000 in
theorem z3a (c : Ch) (hv : vC c = true) (h80 : ¬ (bnd c).length ≤ 80) : AW Try.prog c3_98 (retQ [2] [.c (.B true)]) (s3b c) := by
  have hl := bnd_len hv
  have g9 := x9 (nV c) (nV_le hv) (bnd c) hl (bnd_Rgt hv)
  rw [decide_eq_false h80] at g9
  have h81 : (((bnd c).length : Int) > 80) = True := eq_true (by omega)
  unfold s3b
  (repeat' (first | refine Both.mk ?_ ?_ | ((first | refine aw ?_ | refine aD ?_ | refine aX ?_ | refine cT ?_ | refine cF ?_ | refine cR (g9 ..) ?_ | refine cG (g9 ..) ?_); try simp (disch := omega) only [go_sem, seval, reduceCtorEq, h81, List.length_map]) | refine aI (fun hc => ?_) fun hc => ?_ | simp (disch := omega) only [go_sem, seval, reduceCtorEq, h81, List.length_map] | refine aO ?_ | refine aC ?_ ?_ | refine aC' ?_ ?_ | refine aA ?_ ?_ | fail))
set_option maxHeartbeats 8000000 in
theorem z3b (c : Ch) (hv : vC c = true) (h80 : (bnd c).length ≤ 80) (ho : okD c = false) : AW Try.prog c3_98 (retQ [2] [.c (.B true)]) (s3b c) := by
  have hl := bnd_len hv
  have hR := bnd_Rgt hv
  have hN := nV_le hv
  have g9 := x9 (nV c) hN (bnd c) hl hR
  rw [decide_eq_true h80] at g9
  obtain ⟨k, s, l, hk1, hk2, hs, hc, hk', hs'⟩ := neg_cyc hv ho
  have g11 := x11n (nV c) hN (bnd c) h80 hR (by rw [ok_eq hv]; exact ho) k s l ⟨hk1, hk2⟩ hs hc hk' hs'
  obtain ⟨l1, l2, l3, l4⟩ := cyc_ok hs (by omega) hc
  have g12 := x12 (nV c) hN (bnd c) h80 hR l (fun e => by subst e; simp at l1; omega) (by omega) l2 l3 l4
  have g10 := x10b c hv ho
  unfold s3b
  (repeat' (first | refine Both.mk ?_ ?_ | ((first | refine aw ?_ | refine aD ?_ | refine aX ?_ | refine cT ?_ | refine cF ?_ | refine cR (g9 ..) ?_ | refine cG (g9 ..) ?_ | refine cR (g10 ..) ?_ | refine cG (g10 ..) ?_ | refine cR (g11 ..) ?_ | refine cG (g11 ..) ?_ | refine cR (g12 ..) ?_ | refine cG (g12 ..) ?_); try simp (disch := omega) only [go_sem, seval, reduceCtorEq]) | refine aI (fun hc => ?_) fun hc => ?_ | simp (disch := omega) only [go_sem, seval, reduceCtorEq] | refine aO ?_ | refine aC ?_ ?_ | refine aC' ?_ ?_ | refine aA ?_ ?_ | fail))
def rA (c : Ch) : List (List CD) := (List.range (nV c - 1)).map fun i => [.I (-(dM c (i + 1) 0)), .I (dM c 0 (i + 1))]
def rF (c : Ch) : List (List CD) := (List.range (nV c - 1)).map fun i => [.I (-(dM c (i + 1) 0))]
def rL (c : Ch) : List (List CD) := (List.range (nV c - 1)).map fun i => [.I (dM c 0 (i + 1))]
theorem ty_ho (c : Ch) : tyD c ++ hoD c = dtL (dM c) (nV c - 1) := List.take_append_drop ..
theorem rA_eq (c : Ch) : (tyD c).map yc ++ (hoD c).map yc = rA c := by
  rw [← List.map_append, ty_ho]; unfold dtL rA; rw [List.map_map]; rfl
theorem rF_eq (c : Ch) : ((tyD c).map (pkY false)).map ic ++ ((hoD c).map (pkY false)).map ic = rF c := by
  rw [← List.map_append, ← List.map_append, ty_ho]; unfold dtL rF; rw [List.map_map, List.map_map]; rfl
theorem rL_eq (c : Ch) : ((tyD c).map (pkY true)).map ic ++ ((hoD c).map (pkY true)).map ic = rL c := by
  rw [← List.map_append, ← List.map_append, ty_ho]; unfold dtL rL; rw [List.map_map, List.map_map]; rfl
theorem rA_len (c : Ch) : (rA c).length = nV c - 1 := by simp [rA]
theorem rF_len (c : Ch) : (rF c).length = nV c - 1 := by simp [rF]
theorem rL_len (c : Ch) : (rL c).length = nV c - 1 := by simp [rL]
theorem getD_map_range {k i : Nat} {f : Nat → List CD} (h : i < k) : ((List.range k).map f).getD i [] = f i := by
  rw [List.getD_eq_getElem?_getD, List.getElem?_eq_getElem (by simpa using h)]; simp
def s3d (c : Ch) : St := ⟨319, [(6, .c (Bds (bnd c))), (7, .I (nV c : Int)), (8, .own 134), (9, .own 1134), (13, .own 160), (14, .own 1160), (16, .own 166), (17, .own 1166)],
  [(1166, .arr 3 1 (((hoD c).map (pkY true)).map ic)), (166, .arr 3 1 (((tyD c).map (pkY true)).map ic)), (1160, .arr 3 1 (((hoD c).map (pkY false)).map ic)), (160, .arr 3 1 (((tyD c).map (pkY false)).map ic)), (1134, .arr 32 2 ((hoD c).map yc)), (134, .arr 32 2 ((tyD c).map yc))]⟩
set_option maxHeartbeats 16000000 in
theorem z4 (c : Ch) (hv : vC c = true) (h80 : (bnd c).length ≤ 80) (ho : okD c = true) : AW Try.prog c3_91 (retQ [2] [.c (.B true)]) (s3d c) := by
  have hR := bnd_Rgt hv
  have hN := nV_le hv
  have hln := vC_len hv
  have hok : okL (nV c) (inO (bnd c)) = true := by rw [ok_eq hv]; exact ho
  have e1 := tyD_len c
  have e2 := hoD_len c
  have a1 := rA_eq c
  have a2 := rF_eq c
  have a3 := rL_eq c
  have t1 := fun i (hi : i + 1 < nV c) => x16 (nV c) hN (bnd c) h80 hR hok 0 (i + 1) (by omega) hi
  have t2 := fun i (hi : i + 1 < nV c) => x16 (nV c) hN (bnd c) h80 hR hok (i + 1) 0 hi (by omega)
  unfold s3d
  (repeat' (first | (with_reducible refine h3_88 ?_) | refine Both.mk ?_ ?_ | ((first | refine aw ?_ | refine aD ?_ | refine aX ?_ | refine cT ?_ | refine cF ?_); try simp (disch := omega) only [go_sem, seval, reduceCtorEq, e1, e2, a1, a2, a3, List.length_map, maxLen]) | refine aI (fun hc => ?_) fun hc => ?_ | simp (disch := omega) only [go_sem, seval, reduceCtorEq, e1, e2, a1, a2, a3, List.length_map, maxLen] | refine aO ?_ | refine aA ?_ ?_ | fail))
  all_goals first | omega | skip
  refine ⟨?_⟩
  have n1 := rA_len c
  have n2 := rF_len c
  have n3 := rL_len c
  (repeat' (first | refine Both.mk ?_ ?_ | ((first | refine aw ?_ | refine aD ?_ | refine aX ?_ | refine cT ?_ | refine cF ?_); try simp (disch := omega) only [go_sem, seval, reduceCtorEq]) | refine aI (fun hc => ?_) fun hc => ?_ | simp (disch := omega) only [go_sem, seval, reduceCtorEq] | refine aO ?_ | refine aA ?_ ?_ | fail))
  refine AW_loopK [6, 7, 19, 20, 21] [2, 22, 23, 24, 25, 26, 27, 28, 253, 254, 255, 256, 257, 258, 259, 260, 261, 262, 263, 264, 265, 266, 267, 268, 269, 270, 271, 272, 273, 274, 275, 276, 277, 278, 279, 280, 281, 282, 283, 284, 285, 286, 287, 288, 289, 290, 291, 292, 293, 294, 295, 296, 297, 298, 299, 300, 301, 302, 303, 304, 305, 306, 307, 308, 309, 310, 311, 312, 313, 314, 315, 316, 317, 318] (fun i : Nat => i ≤ nV c - 1) (fun i => [(22, .I (i : Int))]) (fun _ => [(248, .arr 3 1 (rL c)), (243, .arr 3 1 (rF c)), (238, .arr 32 2 (rA c))]) (fun i => nV c - 1 - i) 0 (by omega) ?_ ?_
  · simp (disch := omega) only [go_sem, seval, reduceCtorEq, Int.natCast_zero]
  · intro i hi
    rcases Nat.lt_or_ge i (nV c - 1) with hil | hil
    · have hkk : ((i : Int) < ((nV c - 1 : Nat) : Int)) = True := eq_true (by omega)
      have u1 := t1 i (by omega)
      have u2 := t2 i (by omega)
      rw [rnd_eq hv (by omega) (by omega)] at u1 u2
      have b1 := dM_bnd hv 0 (i + 1)
      have b2 := dM_bnd hv (i + 1) 0
      have w1 : (rA c).getD i [] = [.I (-(dM c (i + 1) 0)), .I (dM c 0 (i + 1))] := getD_map_range hil
      have w2 : (rF c).getD i [] = [.I (-(dM c (i + 1) 0))] := getD_map_range hil
      have w3 : (rL c).getD i [] = [.I (dM c 0 (i + 1))] := getD_map_range hil
      generalize dM c 0 (i + 1) = X at *
      generalize dM c (i + 1) 0 = Y at *
      have u1' : FnR Try.prog 16 [.I (nV c : Int), .c (Bds (bnd c)), .I 0, .I ((i : Int) + 1)] [.c (.I X), .c (.B true), .c (.I 0)] := u1
      have u2' : FnR Try.prog 16 [.I (nV c : Int), .c (Bds (bnd c)), .I ((i : Int) + 1), .I 0] [.c (.I Y), .c (.B true), .c (.I 0)] := u2
      clear u1 u2 t1 t2
      (repeat' (first | refine Both.mk ?_ ?_ | ((first | refine aw ?_ | refine aD ?_ | refine aX ?_ | refine cT ?_ | refine cF ?_ | refine cR (u1' ..) ?_ | refine cG (u1' ..) ?_ | refine cR (u2' ..) ?_ | refine cG (u2' ..) ?_); try simp (disch := omega) only [go_sem, seval, reduceCtorEq, hkk, n1, n2, n3, w1, w2, w3, Int.toNat_natCast]) | refine aI (fun hc => ?_) fun hc => ?_ | simp (disch := omega) only [go_sem, seval, reduceCtorEq, hkk, n1, n2, n3, w1, w2, w3, Int.toNat_natCast] | refine aO ?_ | refine aC ?_ ?_ | refine aC' ?_ ?_ | refine aA ?_ ?_ | fail))
      all_goals first | omega | skip
      refine .mk (i + 1) (by omega) (by omega) ?_
      simp (disch := omega) only [go_sem, seval, reduceCtorEq, Int.natCast_add, Int.natCast_one]
    · obtain rfl : i = nV c - 1 := by omega
      have hkk : (((nV c - 1 : Nat) : Int) < ((nV c - 1 : Nat) : Int)) = False := eq_false (by omega)
      (repeat' (first | refine Both.mk ?_ ?_ | ((first | refine aw ?_ | refine aD ?_ | refine aX ?_ | refine cT ?_ | refine cF ?_); try simp (disch := omega) only [go_sem, seval, reduceCtorEq, hkk, n1]) | refine aI (fun hc => ?_) fun hc => ?_ | simp (disch := omega) only [go_sem, seval, reduceCtorEq, hkk, n1] | refine aO ?_ | refine aA ?_ ?_ | fail))
set_option maxHeartbeats 16000000 in
theorem z3c (c : Ch) (hv : vC c = true) (h80 : (bnd c).length ≤ 80) (ho : okD c = true) : AW Try.prog c3_98 (retQ [2] [.c (.B true)]) (s3b c) := by
  have hl := bnd_len hv
  have hR := bnd_Rgt hv
  have hN := nV_le hv
  have hln := vC_len hv
  have g9 := x9 (nV c) hN (bnd c) hl hR
  rw [decide_eq_true h80] at g9
  have hok : okL (nV c) (inO (bnd c)) = true := by rw [ok_eq hv]; exact ho
  have g11 := x11y (nV c) hN (bnd c) h80 hR hok
  have g10 : FnR Try.prog 10 [chv c] [.own 32 2 ((tyD c).map yc), .own 32 2 ((hoD c).map yc), .c (.I 0)] := x10 c hv ho
  have g13 := x13 c hv ho
  have g14 := x14 c hv ho
  have hI1 := x15 c hv _ _ (IsD_first hv ho)
  have hI2 := x15 c hv _ _ (IsD_last hv ho)
  have e1 := tyD_len c
  have e2 := hoD_len c
  unfold s3b
  (repeat' (first | (with_reducible refine h3_91 ?_) | refine Both.mk ?_ ?_ | ((first | refine aw ?_ | refine aD ?_ | refine aX ?_ | refine cT ?_ | refine cF ?_ | refine CallAt.mk _ (g9 ..) (by first | (intro h; cases h; done) | (intro _; repeat' (first | exact List.forall_mem_nil _ | trivial | exact flat_ic _ | refine List.forall_mem_cons.2 ⟨?_, ?_⟩)) | (intro _; simp [RV.flatP, CD.flatP, e1, e2, List.length_map]; done)) ?_ | refine cG (g9 ..) ?_ | refine CallAt.mk _ (g10 ..) (by first | (intro h; cases h; done) | (intro _; repeat' (first | exact List.forall_mem_nil _ | trivial | exact flat_ic _ | refine List.forall_mem_cons.2 ⟨?_, ?_⟩)) | (intro _; simp [RV.flatP, CD.flatP, e1, e2, List.length_map]; done)) ?_ | refine cG (g10 ..) ?_ | refine CallAt.mk _ (g11 ..) (by first | (intro h; cases h; done) | (intro _; repeat' (first | exact List.forall_mem_nil _ | trivial | exact flat_ic _ | refine List.forall_mem_cons.2 ⟨?_, ?_⟩)) | (intro _; simp [RV.flatP, CD.flatP, e1, e2, List.length_map]; done)) ?_ | refine cG (g11 ..) ?_ | refine CallAt.mk _ (g13 ..) (by first | (intro h; cases h; done) | (intro _; repeat' (first | exact List.forall_mem_nil _ | trivial | exact flat_ic _ | refine List.forall_mem_cons.2 ⟨?_, ?_⟩)) | (intro _; simp [RV.flatP, CD.flatP, e1, e2, List.length_map]; done)) ?_ | refine cG (g13 ..) ?_ | refine CallAt.mk _ (g14 ..) (by first | (intro h; cases h; done) | (intro _; repeat' (first | exact List.forall_mem_nil _ | trivial | exact flat_ic _ | refine List.forall_mem_cons.2 ⟨?_, ?_⟩)) | (intro _; simp [RV.flatP, CD.flatP, e1, e2, List.length_map]; done)) ?_ | refine cG (g14 ..) ?_ | refine CallAt.mk _ (hI1 ..) (by first | (intro h; cases h; done) | (intro _; repeat' (first | exact List.forall_mem_nil _ | trivial | exact flat_ic _ | refine List.forall_mem_cons.2 ⟨?_, ?_⟩)) | (intro _; simp [RV.flatP, CD.flatP, e1, e2, List.length_map]; done)) ?_ | refine cG (hI1 ..) ?_ | refine CallAt.mk _ (hI2 ..) (by first | (intro h; cases h; done) | (intro _; repeat' (first | exact List.forall_mem_nil _ | trivial | exact flat_ic _ | refine List.forall_mem_cons.2 ⟨?_, ?_⟩)) | (intro _; simp [RV.flatP, CD.flatP, e1, e2, List.length_map]; done)) ?_ | refine cG (hI2 ..) ?_); try simp (disch := omega) only [go_sem, seval, reduceCtorEq, e1, e2, List.length_map]) | refine aI (fun hc => ?_) fun hc => ?_ | simp (disch := omega) only [go_sem, seval, reduceCtorEq, e1, e2, List.length_map] | refine aO ?_ | refine aC ?_ ?_ | refine aC' ?_ ?_ | refine aA ?_ ?_ | fail))
  refine ⟨AW_le (s3d c) ?_ (z4 c hv h80 ho)⟩
  unfold s3d
  simp (disch := omega) only [go_sem, seval, reduceCtorEq]
end Go.Proofs.Ytdmngdphgnnoiaa

open Go Go.AL Go.RowKit
namespace Go.Proofs.Ytdmngdphgnnoiaa
set_option maxRecDepth 20000
theorem h3_41 {Q : Exit → St → Prop} {σ : St} (h : Hold (AW Try.prog c3_41 Q σ)) : AW Try.prog c3_41 Q σ := h.out
theorem h3_101 {Q : Exit → St → Prop} {σ : St} (h : Hold (AW Try.prog c3_101 Q σ)) : AW Try.prog c3_101 Q σ := h.out
set_option maxHeartbeats 4000000 in
theorem x3n (c : Ch) (hv : vC c = false) : FnR Try.prog 3 [chv c] [.c (.B true)] := by
  have g5 := x5 c
  rw [hv] at g5
  refine fn_walk code3 (by simp) ?_
  (repeat' (first | refine Both.mk ?_ ?_ | ((first | refine aw ?_ | refine aD ?_ | refine aX ?_ | refine cT ?_ | refine cF ?_ | refine cR (x4 ..) ?_ | refine cG (x4 ..) ?_ | refine cR (g5 ..) ?_ | refine cG (g5 ..) ?_); try simp (disch := omega) only [go_sem, seval, reduceCtorEq]) | refine aI (fun hc => ?_) fun hc => ?_ | simp (disch := omega) only [go_sem, seval, reduceCtorEq] | refine aO ?_ | refine aC ?_ ?_ | refine aC' ?_ ?_ | refine aA ?_ ?_ | fail))
set_option maxHeartbeats 4000000 in
theorem x3y (c : Ch) (hv : vC c = true) : FnR Try.prog 3 [chv c] [.c (.B true)] := by
  have g5 := x5 c
  rw [hv] at g5
  have hln := vC_len hv
  have h1 : ((c.ty.length : Int) > 8) = False := eq_false (by omega)
  have h2 : ((c.ho.length : Int) > 6) = False := eq_false (by omega)
  have h3 : ((c.ga.length : Int) > 16) = False := eq_false (by omega)
  refine fn_walk code3 (by simp) ?_
  (repeat' (first | (with_reducible refine h3_101 ?_) | refine Both.mk ?_ ?_ | ((first | refine aw ?_ | refine aD ?_ | refine aX ?_ | refine cT ?_ | refine cF ?_ | refine cR (x4 ..) ?_ | refine cG (x4 ..) ?_ | refine cR (g5 ..) ?_ | refine cG (g5 ..) ?_); try simp (disch := omega) only [go_sem, seval, reduceCtorEq, h1, h2, h3, List.length_map]) | refine aI (fun hc => ?_) fun hc => ?_ | simp (disch := omega) only [go_sem, seval, reduceCtorEq, h1, h2, h3, List.length_map] | refine aO ?_ | refine aC ?_ ?_ | refine aC' ?_ ?_ | refine aA ?_ ?_ | fail))
  refine ⟨?_⟩
  refine AW_le (s3 c) (by unfold s3; simp (disch := omega) only [go_sem, seval, reduceCtorEq]) ?_
  have h100 : AW Try.prog c3_100 (retQ [2] [.c (.B true)]) (s3 c) := by
    refine z2 c hv ?_
    by_cases h80 : (bnd c).length ≤ 80
    · cases ho : okD c with
      | true => exact z3c c hv h80 ho
      | false => exact z3b c hv h80 ho
    · exact z3a c hv h80
  (repeat' (first | (with_reducible refine h3_41 ?_) | refine Both.mk ?_ ?_ | ((first | refine aw ?_ | refine aD ?_ | refine aX ?_ | refine cT ?_ | refine cF ?_); try simp (disch := omega) only [go_sem, seval, reduceCtorEq]) | refine aI (fun hc => ?_) fun hc => ?_ | simp (disch := omega) only [go_sem, seval, reduceCtorEq] | refine aO ?_ | refine aA ?_ ?_ | fail))
  refine ⟨AW_cut _ _ (z1 c hv) ?_ h100⟩
  unfold s3
  simp (disch := omega) only [go_sem, seval, reduceCtorEq]
theorem Try.own : ownKnob Try.prog.godebug = none := by kernel_rfl
theorem Try.laidOut : laidOutB Try.prog = true := by kernel_rfl
theorem years_of {ds : List CD} {s : List Sh} (h : Ty (.sl [.int .i64, .int .i64] :: s) ds) : ∃ (l : List Yr) (r : List CD), ds = Yrs l :: r ∧ Ty s r := by
  obtain ⟨xs, r, e, hx, h'⟩ := h.sl_inv
  obtain ⟨l, rfl⟩ := map_of (f := yc) fun x hx' => by
    have h0 := hx x hx'
    obtain ⟨a1, _, rfl, _, h0⟩ := h0.int_inv
    obtain ⟨a2, _, rfl, _, h0⟩ := h0.int_inv
    obtain rfl := h0.nil_inv
    exact ⟨(a1, a2), rfl⟩
  exact ⟨l, r, e, h'⟩
theorem hoards_of {ds : List CD} {s : List Sh} (h : Ty (.sl [.int .i64, .sl [.int .i64, .int .i64], .int .i64, .int .i64] :: s) ds) : ∃ (l : List Hd) (r : List CD), ds = .sl 4 (l.map hdc) :: r ∧ Ty s r := by
  obtain ⟨xs, r, e, hx, h'⟩ := h.sl_inv
  obtain ⟨l, rfl⟩ := map_of (f := hdc) fun x hx' => by
    have h0 := hx x hx'
    obtain ⟨a1, _, rfl, _, h0⟩ := h0.int_inv
    obtain ⟨l, _, rfl, k0⟩ := years_of h0
    obtain ⟨a2, _, rfl, _, k0⟩ := k0.int_inv
    obtain ⟨a3, _, rfl, _, k0⟩ := k0.int_inv
    obtain rfl := k0.nil_inv
    exact ⟨⟨a1, l, (a2, a3)⟩, rfl⟩
  exact ⟨l, r, e, h'⟩
theorem gaps_of {ds : List CD} {s : List Sh} (h : Ty (.sl [.int .i64, .int .i64, .int .i64] :: s) ds) : ∃ (l : List Gp) (r : List CD), ds = Gps l :: r ∧ Ty s r := by
  obtain ⟨xs, r, e, hx, h'⟩ := h.sl_inv
  obtain ⟨l, rfl⟩ := map_of (f := gpc) fun x hx' => by
    have h0 := hx x hx'
    obtain ⟨a1, _, rfl, _, h0⟩ := h0.int_inv
    obtain ⟨a2, _, rfl, _, h0⟩ := h0.int_inv
    obtain ⟨a3, _, rfl, _, h0⟩ := h0.int_inv
    obtain rfl := h0.nil_inv
    exact ⟨⟨a1, a2, a3⟩, rfl⟩
  exact ⟨l, r, e, h'⟩
theorem WholeDates_fn : ∀ xs, TyArgs [(true, [.sl [.int .i64, .int .i64], .sl [.int .i64, .sl [.int .i64, .int .i64], .int .i64, .int .i64], .sl [.int .i64, .int .i64, .int .i64]])] xs → FnR Try.prog 3 xs [.c (.B true)] := by
  intro xs h
  obtain ⟨d0, _, rfl, h0, h⟩ := h.cons_inv
  obtain rfl := h.nil_inv
  obtain ⟨a, _, rfl, h1⟩ := years_of h0
  obtain ⟨b, _, rfl, h2⟩ := hoards_of h1
  obtain ⟨l, _, rfl, h3⟩ := gaps_of h2
  obtain rfl := h3.nil_inv
  cases hv : vC ⟨a, b, l⟩ with
  | true => exact x3y ⟨a, b, l⟩ hv
  | false => exact x3n ⟨a, b, l⟩ hv
theorem WholeDates_holds : Rows.WholeDatesSaid :=
  OpenClaim.holds_of_wide 3 Try.f3 rfl rfl rfl rfl rfl rfl rfl ⟨rfl, rfl, rfl, rfl, rfl⟩ rfl rfl rfl rfl rfl (by kernel_rfl) Try.func3 (by kernel_rfl)
    (of_decide_eq_true (by kernel_rfl)) (by unfold Func.isWrapper; first | (rw [if_pos (by decide +kernel)]; kernel_rfl) | (rw [if_neg (by decide +kernel)]; exact ⟨rfl, rfl⟩))
    (fun os started H enc _ => law_lifted (s := Rows.wholeDatesSpec) (C := Try.checked) (n := 12) Try.own Try.laidOut (by kernel_rfl) Try.func3 (by decide +kernel) rfl (by kernel_rfl) rfl (by kernel_rfl) (fun H ds h => by
      match ds, h with
      | [d1], _ => rfl) WholeDates_fn os started H enc
      (ChangeSpec.witness6 (enc := enc) (C := Try.checked) false ⟨#[], #[.agg #[.slice none 0 0, .slice none 0 0, .slice none 0 0]], []⟩ 12 (by kernel_rfl) (by kernel_rfl) (by kernel_rfl) (by kernel_rfl)))
end Go.Proofs.Ytdmngdphgnnoiaa

