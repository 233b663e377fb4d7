/-
  Lemmas for the proof: no statement of its own.
-/
import Derived.Test.YthpnplebcmijnaaProg
import Derived.Test.YthpnplebcmijnaaAlD
import Derived.KernelRfl
set_option linter.unusedVariables false
set_option linter.unusedSimpArgs false
-- P p_w.txt
open Go Go.AL
namespace Go.Proofs.Ythpnplebcmijnaa
/- coinage/coinagetop.WholeOpinions -/
abbrev c3_1 : AC := .reg [⟨(some 6), .mv (.k (.B false)), none⟩] false
abbrev c3_2 : AC := .reg [⟨(some 32), .call 4 [], none⟩,
  ⟨(some 33), .not (.t 32), none⟩,
  ⟨(some 34), .mv (.t 33), none⟩,
  ⟨(some 35), .mv (.t 0), (some (34, false))⟩,
  ⟨(some 36), .len (.t 35), (some (34, false))⟩,
  ⟨(some 37), .bin .gtr (.t 36) (.k (.I 20)), (some (34, false))⟩,
  ⟨(some 38), .pick (.t 34) (.k (.B true)) (.t 37), none⟩,
  ⟨(some 39), .mv (.t 38), none⟩,
  ⟨(some 40), .mv (.t 1), (some (39, false))⟩,
  ⟨(some 41), .len (.t 40), (some (39, false))⟩,
  ⟨(some 42), .bin .gtr (.t 41) (.k (.I 20)), (some (39, false))⟩,
  ⟨(some 43), .pick (.t 39) (.k (.B true)) (.t 42), none⟩,
  ⟨(some 44), .mv (.t 43), none⟩,
  ⟨(some 45), .mv (.t 2), (some (44, false))⟩,
  ⟨(some 46), .len (.t 45), (some (44, false))⟩,
  ⟨(some 47), .bin .gtr (.t 46) (.k (.I 20)), (some (44, false))⟩,
  ⟨(some 48), .pick (.t 44) (.k (.B true)) (.t 47), none⟩] false
abbrev c3_3 : AC := .reg [⟨(some 49), .call 4 [], none⟩,
  ⟨(some 6), .mv (.t 49), none⟩] false
abbrev c3_4 : AC := .seq c3_3 .ret
abbrev c3_5 : AC := .cond (.t 48) c3_4 .skip
abbrev c3_6 : AC := .seq c3_2 c3_5
abbrev c3_7 : AC := .reg [⟨(some 51), .mv (.t 0), none⟩,
  ⟨(some 52), .mv (.t 1), none⟩,
  ⟨(some 53), .mv (.t 2), none⟩,
  ⟨(some 54), .call 5 [(.t 51), (.t 52), (.t 53)], none⟩,
  ⟨(some 50), .mv (.t 54), none⟩,
  ⟨(some 55), .ext (.t 50) 0, none⟩,
  ⟨(some 56), .ext (.t 50) 1, none⟩,
  ⟨(some 57), .ext (.t 50) 2, none⟩,
  ⟨(some 7), .mv (.t 55), none⟩,
  ⟨(some 8), .mv (.t 56), none⟩,
  ⟨(some 9), .mv (.t 57), none⟩] false
abbrev c3_8 : AC := .reg [⟨(some 59), .mv (.t 0), none⟩,
  ⟨(some 60), .mv (.t 1), none⟩,
  ⟨(some 61), .call 6 [(.t 59), (.t 60)], none⟩,
  ⟨(some 58), .mv (.t 61), none⟩,
  ⟨(some 62), .ext (.t 58) 0, none⟩,
  ⟨(some 63), .ext (.t 58) 1, none⟩,
  ⟨(some 10), .mv (.t 62), none⟩,
  ⟨(some 11), .mv (.t 63), none⟩] false
abbrev c3_9 : AC := .reg [⟨(some 65), .mv (.t 0), none⟩,
  ⟨(some 66), .mv (.t 2), none⟩,
  ⟨(some 67), .call 6 [(.t 65), (.t 66)], none⟩,
  ⟨(some 64), .mv (.t 67), none⟩,
  ⟨(some 68), .ext (.t 64) 0, none⟩,
  ⟨(some 69), .ext (.t 64) 1, none⟩,
  ⟨(some 12), .mv (.t 68), none⟩,
  ⟨(some 13), .mv (.t 69), none⟩] false
abbrev c3_10 : AC := .reg [⟨(some 70), .mv (.t 9), none⟩,
  ⟨(some 71), .bin .neq (.t 70) (.k (.I 0)), none⟩,
  ⟨(some 72), .mv (.t 71), none⟩,
  ⟨(some 73), .mv (.t 11), (some (72, false))⟩,
  ⟨(some 74), .bin .neq (.t 73) (.k (.I 0)), (some (72, false))⟩,
  ⟨(some 75), .pick (.t 72) (.k (.B true)) (.t 74), none⟩,
  ⟨(some 76), .mv (.t 75), none⟩,
  ⟨(some 77), .mv (.t 13), (some (76, false))⟩,
  ⟨(some 78), .bin .neq (.t 77) (.k (.I 0)), (some (76, false))⟩,
  ⟨(some 79), .pick (.t 76) (.k (.B true)) (.t 78), none⟩,
  ⟨(some 80), .mv (.t 79), none⟩,
  ⟨(some 81), .mv (.t 8), (some (80, false))⟩,
  ⟨(some 82), .len (.t 81), (some (80, false))⟩,
  ⟨(some 83), .bin .gtr (.t 82) (.k (.I 0)), (some (80, false))⟩,
  ⟨(some 84), .pick (.t 80) (.k (.B true)) (.t 83), none⟩] false
abbrev c3_11 : AC := .reg [⟨(some 85), .mv (.t 7), none⟩,
  ⟨(some 86), .len (.t 85), none⟩,
  ⟨(some 87), .bin .eql (.t 86) (.k (.I 0)), none⟩,
  ⟨(some 88), .mv (.t 87), none⟩,
  ⟨(some 89), .mv (.t 9), (some (88, false))⟩,
  ⟨(some 90), .bin .eql (.t 89) (.k (.I 0)), (some (88, false))⟩,
  ⟨(some 91), .pick (.t 88) (.k (.B true)) (.t 90), none⟩,
  ⟨(some 6), .mv (.t 91), none⟩] false
abbrev c3_12 : AC := .seq c3_11 .ret
abbrev c3_13 : AC := .cond (.t 84) c3_12 .skip
abbrev c3_14 : AC := .seq c3_10 c3_13
abbrev c3_15 : AC := .reg [⟨(some 93), .mv (.t 0), none⟩,
  ⟨(some 94), .mv (.t 2), none⟩,
  ⟨(some 95), .mv (.t 1), none⟩,
  ⟨(some 96), .call 5 [(.t 93), (.t 94), (.t 95)], none⟩,
  ⟨(some 92), .mv (.t 96), none⟩,
  ⟨(some 97), .ext (.t 92) 0, none⟩,
  ⟨(some 98), .ext (.t 92) 1, none⟩,
  ⟨(some 99), .ext (.t 92) 2, none⟩,
  ⟨(some 14), .mv (.t 97), none⟩,
  ⟨(some 15), .mv (.t 98), none⟩,
  ⟨(some 16), .mv (.t 99), none⟩] false
abbrev c3_16 : AC := .reg [⟨(some 100), .mv (.t 14), none⟩,
  ⟨(some 101), .mv (.t 7), none⟩,
  ⟨(some 102), .call 7 [(.t 100), (.t 101)], none⟩,
  ⟨(some 103), .not (.t 102), none⟩,
  ⟨(some 104), .mv (.t 103), none⟩,
  ⟨(some 105), .mv (.t 15), (some (104, false))⟩,
  ⟨(some 106), .len (.t 105), (some (104, false))⟩,
  ⟨(some 107), .bin .gtr (.t 106) (.k (.I 0)), (some (104, false))⟩,
  ⟨(some 108), .pick (.t 104) (.k (.B true)) (.t 107), none⟩,
  ⟨(some 109), .mv (.t 108), none⟩,
  ⟨(some 110), .mv (.t 16), (some (109, false))⟩,
  ⟨(some 111), .bin .neq (.t 110) (.k (.I 0)), (some (109, false))⟩,
  ⟨(some 112), .pick (.t 109) (.k (.B true)) (.t 111), none⟩] false
abbrev c3_17 : AC := .reg [⟨(some 6), .mv (.k (.B false)), none⟩] false
abbrev c3_18 : AC := .seq c3_17 .ret
abbrev c3_19 : AC := .cond (.t 112) c3_18 .skip
abbrev c3_20 : AC := .seq c3_16 c3_19
abbrev c3_21 : AC := .reg [⟨(some 114), .mv (.t 1), none⟩,
  ⟨(some 115), .mv (.t 7), none⟩,
  ⟨(some 116), .call 6 [(.t 114), (.t 115)], none⟩,
  ⟨(some 113), .mv (.t 116), none⟩,
  ⟨(some 117), .ext (.t 113) 0, none⟩,
  ⟨(some 118), .ext (.t 113) 1, none⟩,
  ⟨(some 17), .mv (.t 117), none⟩,
  ⟨(some 18), .mv (.t 118), none⟩] false
abbrev c3_22 : AC := .reg [⟨(some 120), .mv (.t 1), none⟩,
  ⟨(some 121), .mv (.t 17), none⟩,
  ⟨(some 122), .call 8 [(.t 120), (.t 121)], none⟩,
  ⟨(some 119), .mv (.t 122), none⟩,
  ⟨(some 123), .ext (.t 119) 0, none⟩,
  ⟨(some 124), .ext (.t 119) 1, none⟩,
  ⟨(some 19), .mv (.t 123), none⟩,
  ⟨(some 20), .mv (.t 124), none⟩] false
abbrev c3_23 : AC := .reg [⟨(some 126), .mv (.t 10), none⟩,
  ⟨(some 127), .mv (.t 17), none⟩,
  ⟨(some 128), .call 9 [(.t 126), (.t 127)], none⟩,
  ⟨(some 125), .mv (.t 128), none⟩,
  ⟨(some 129), .ext (.t 125) 0, none⟩,
  ⟨(some 130), .ext (.t 125) 1, none⟩,
  ⟨(some 21), .mv (.t 129), none⟩,
  ⟨(some 22), .mv (.t 130), none⟩] false
abbrev c3_24 : AC := .reg [⟨(some 132), .mv (.t 0), none⟩,
  ⟨(some 133), .mv (.t 21), none⟩,
  ⟨(some 134), .call 8 [(.t 132), (.t 133)], none⟩,
  ⟨(some 131), .mv (.t 134), none⟩,
  ⟨(some 135), .ext (.t 131) 0, none⟩,
  ⟨(some 136), .ext (.t 131) 1, none⟩,
  ⟨(some 23), .mv (.t 135), none⟩,
  ⟨(some 24), .mv (.t 136), none⟩] false
abbrev c3_25 : AC := .reg [⟨(some 138), .mv (.t 21), none⟩,
  ⟨(some 139), .call 10 [(.t 138)], none⟩,
  ⟨(some 137), .mv (.t 139), none⟩,
  ⟨(some 140), .ext (.t 137) 0, none⟩,
  ⟨(some 141), .ext (.t 137) 1, none⟩,
  ⟨(some 25), .mv (.t 140), none⟩,
  ⟨(some 26), .mv (.t 141), none⟩] false
abbrev c3_26 : AC := .reg [⟨(some 143), .mv (.t 7), none⟩,
  ⟨(some 144), .mv (.t 25), none⟩,
  ⟨(some 145), .call 8 [(.t 143), (.t 144)], none⟩,
  ⟨(some 142), .mv (.t 145), none⟩,
  ⟨(some 146), .ext (.t 142) 0, none⟩,
  ⟨(some 147), .ext (.t 142) 1, none⟩,
  ⟨(some 27), .mv (.t 146), none⟩,
  ⟨(some 28), .mv (.t 147), none⟩] false
abbrev c3_27 : AC := .reg [⟨(some 148), .mv (.t 18), none⟩,
  ⟨(some 149), .bin .neq (.t 148) (.k (.I 0)), none⟩,
  ⟨(some 150), .mv (.t 149), none⟩,
  ⟨(some 151), .mv (.t 20), (some (150, false))⟩,
  ⟨(some 152), .bin .neq (.t 151) (.k (.I 0)), (some (150, false))⟩,
  ⟨(some 153), .pick (.t 150) (.k (.B true)) (.t 152), none⟩,
  ⟨(some 154), .mv (.t 153), none⟩,
  ⟨(some 155), .mv (.t 22), (some (154, false))⟩,
  ⟨(some 156), .bin .neq (.t 155) (.k (.I 0)), (some (154, false))⟩,
  ⟨(some 157), .pick (.t 154) (.k (.B true)) (.t 156), none⟩,
  ⟨(some 158), .mv (.t 157), none⟩,
  ⟨(some 159), .mv (.t 24), (some (158, false))⟩,
  ⟨(some 160), .bin .neq (.t 159) (.k (.I 0)), (some (158, false))⟩,
  ⟨(some 161), .pick (.t 158) (.k (.B true)) (.t 160), none⟩,
  ⟨(some 162), .mv (.t 161), none⟩,
  ⟨(some 163), .mv (.t 26), (some (162, false))⟩,
  ⟨(some 164), .bin .neq (.t 163) (.k (.I 0)), (some (162, false))⟩,
  ⟨(some 165), .pick (.t 162) (.k (.B true)) (.t 164), none⟩,
  ⟨(some 166), .mv (.t 165), none⟩,
  ⟨(some 167), .mv (.t 28), (some (166, false))⟩,
  ⟨(some 168), .bin .neq (.t 167) (.k (.I 0)), (some (166, false))⟩,
  ⟨(some 169), .pick (.t 166) (.k (.B true)) (.t 168), none⟩] false
abbrev c3_28 : AC := .reg [⟨(some 6), .mv (.k (.B false)), none⟩] false
abbrev c3_29 : AC := .seq c3_28 .ret
abbrev c3_30 : AC := .cond (.t 169) c3_29 .skip
abbrev c3_31 : AC := .seq c3_27 c3_30
abbrev c3_32 : AC := .reg [⟨(some 29), .mv (.k (.I 0)), none⟩] false
abbrev c3_33 : AC := .reg [⟨(some 170), .mv (.t 29), none⟩,
  ⟨(some 171), .mv (.t 17), none⟩,
  ⟨(some 172), .len (.t 171), none⟩,
  ⟨(some 173), .bin .lss (.t 170) (.t 172), none⟩] false
abbrev c3_34 : AC := .cond (.t 173) .skip (.exit 0)
abbrev c3_35 : AC := .seq c3_33 c3_34
abbrev c3_36 : AC := .reg [⟨(some 30), .mv (.k (.B false)), none⟩] false
abbrev c3_37 : AC := .reg [⟨(some 31), .mv (.k (.I 0)), none⟩] false
abbrev c3_38 : AC := .reg [⟨(some 176), .mv (.t 31), none⟩,
  ⟨(some 177), .mv (.t 12), none⟩,
  ⟨(some 178), .len (.t 177), none⟩,
  ⟨(some 179), .bin .lss (.t 176) (.t 178), none⟩] false
abbrev c3_39 : AC := .cond (.t 179) .skip (.exit 2)
abbrev c3_40 : AC := .seq c3_38 c3_39
abbrev c3_41 : AC := .regD [(⟨(some 182), .mv (.t 30), none⟩, [30]),
  (⟨(some 183), .mv (.t 182), none⟩, [182]),
  (⟨(some 184), .mv (.t 12), (some (183, false))⟩, [12, 183]),
  (⟨(some 185), .mv (.t 31), (some (183, false))⟩, [31, 183]),
  (⟨(some 186), .iad 5 (.t 184) (.t 185), (some (183, false))⟩, [184, 185, 183]),
  (⟨(some 187), .ld (some 5) (.t 186), (some (183, false))⟩, [186, 183]),
  (⟨(some 188), .mv (.t 17), (some (183, false))⟩, [17, 183]),
  (⟨(some 189), .mv (.t 29), (some (183, false))⟩, [29, 183]),
  (⟨(some 190), .iad 5 (.t 188) (.t 189), (some (183, false))⟩, [188, 189, 183]),
  (⟨(some 191), .ld (some 5) (.t 190), (some (183, false))⟩, [190, 183]),
  (⟨(some 192), .eqs false [false, false, false, true, true] (.t 187) (.t 191), (some (183, false))⟩, [187, 191, 183]),
  (⟨(some 193), .pick (.t 183) (.k (.B true)) (.t 192), none⟩, [183, 192]),
  (⟨(some 30), .mv (.t 193), none⟩, [193])]
abbrev c3_42 : AC := .block 3 c3_41
abbrev c3_43 : AC := .reg [⟨(some 180), .mv (.t 31), none⟩,
  ⟨(some 181), .bin .add (.t 180) (.k (.I 1)), none⟩,
  ⟨(some 31), .mv (.t 181), none⟩] false
abbrev c3_44 : AC := .seq c3_42 c3_43
abbrev c3_45 : AC := .seq c3_40 c3_44
abbrev c3_46 : AC := .loop c3_45
abbrev c3_47 : AC := .block 2 c3_46
abbrev c3_48 : AC := .seq c3_37 c3_47
abbrev c3_49 : AC := .reg [⟨(some 194), .mv (.t 30), none⟩,
  ⟨(some 195), .not (.t 194), none⟩] false
abbrev c3_50 : AC := .reg [⟨(some 6), .mv (.k (.B false)), none⟩] false
abbrev c3_51 : AC := .seq c3_50 .ret
abbrev c3_52 : AC := .cond (.t 195) c3_51 .skip
abbrev c3_53 : AC := .seq c3_49 c3_52
abbrev c3_54 : AC := .seq c3_48 c3_53
abbrev c3_55 : AC := .seq c3_36 c3_54
abbrev c3_56 : AC := .block 1 c3_55
abbrev c3_57 : AC := .reg [⟨(some 174), .mv (.t 29), none⟩,
  ⟨(some 175), .bin .add (.t 174) (.k (.I 1)), none⟩,
  ⟨(some 29), .mv (.t 175), none⟩] false
abbrev c3_58 : AC := .seq c3_56 c3_57
abbrev c3_59 : AC := .seq c3_35 c3_58
abbrev c3_60 : AC := .loop c3_59
abbrev c3_61 : AC := .block 0 c3_60
abbrev c3_62 : AC := .seq c3_32 c3_61
abbrev c3_63 : AC := .reg [⟨(some 196), .mv (.t 19), none⟩,
  ⟨(some 197), .mv (.t 7), none⟩,
  ⟨(some 198), .call 7 [(.t 196), (.t 197)], none⟩,
  ⟨(some 199), .mv (.t 198), none⟩,
  ⟨(some 200), .mv (.t 23), (some (199, true))⟩,
  ⟨(some 201), .mv (.t 7), (some (199, true))⟩,
  ⟨(some 202), .call 7 [(.t 200), (.t 201)], (some (199, true))⟩,
  ⟨(some 203), .pick (.t 199) (.t 202) (.k (.B false)), none⟩,
  ⟨(some 204), .mv (.t 203), none⟩,
  ⟨(some 205), .mv (.t 27), (some (204, true))⟩,
  ⟨(some 206), .mv (.t 0), (some (204, true))⟩,
  ⟨(some 207), .call 7 [(.t 205), (.t 206)], (some (204, true))⟩,
  ⟨(some 208), .pick (.t 204) (.t 207) (.k (.B false)), none⟩,
  ⟨(some 6), .mv (.t 208), none⟩] false
abbrev c3_64 : AC := .seq c3_63 .ret
abbrev c3_65 : AC := .seq c3_62 c3_64
abbrev c3_66 : AC := .seq c3_31 c3_65
abbrev c3_67 : AC := .seq c3_26 c3_66
abbrev c3_68 : AC := .seq c3_25 c3_67
abbrev c3_69 : AC := .seq c3_24 c3_68
abbrev c3_70 : AC := .seq c3_23 c3_69
abbrev c3_71 : AC := .seq c3_22 c3_70
abbrev c3_72 : AC := .seq c3_21 c3_71
abbrev c3_73 : AC := .seq c3_20 c3_72
abbrev c3_74 : AC := .seq c3_15 c3_73
abbrev c3_75 : AC := .seq c3_14 c3_74
abbrev c3_76 : AC := .seq c3_9 c3_75
abbrev c3_77 : AC := .seq c3_8 c3_76
abbrev c3_78 : AC := .seq c3_7 c3_77
abbrev c3_79 : AC := .seq c3_6 c3_78
abbrev c3_80 : AC := .seq c3_1 c3_79
abbrev c3 : AC := c3_80
theorem code3 : fnCode Try.prog 3 = some (c3, [6], 209) := by kernel_rfl
/- coinage/coinagetop.opinionsAwake -/
abbrev c4_1 : AC := .reg [⟨(some 0), .mv (.k (.B false)), none⟩] false
abbrev c4_2 : AC := .reg [⟨(some 7), .build [(.I 0), (.I 0)] [(0, 1, (.k (.I 1))), (1, 1, (.k (.I 5)))], none⟩,
  ⟨(some 8), .bslice 40 2 [(.t 7)], none⟩,
  ⟨(some 1), .mv (.t 8), none⟩] false
abbrev c4_3 : AC := .reg [⟨(some 9), .build [(.I 0), (.I 0)] [(0, 1, (.k (.I 1))), (1, 1, (.k (.I 6)))], none⟩,
  ⟨(some 10), .build [(.I 0), (.I 0)] [(0, 1, (.k (.I 2))), (1, 1, (.k (.I 7)))], none⟩,
  ⟨(some 11), .bslice 40 2 [(.t 9), (.t 10)], none⟩,
  ⟨(some 2), .mv (.t 11), none⟩] false
abbrev c4_4 : AC := .reg [⟨(some 13), .mv (.t 1), none⟩,
  ⟨(some 14), .mv (.t 2), none⟩,
  ⟨(some 15), .call 6 [(.t 13), (.t 14)], none⟩,
  ⟨(some 12), .mv (.t 15), none⟩,
  ⟨(some 16), .ext (.t 12) 0, none⟩,
  ⟨(some 17), .ext (.t 12) 1, none⟩,
  ⟨(some 3), .mv (.t 16), none⟩,
  ⟨(some 4), .mv (.t 17), none⟩] false
abbrev c4_5 : AC := .reg [⟨(some 19), .mv (.t 1), none⟩,
  ⟨(some 20), .mv (.t 3), none⟩,
  ⟨(some 21), .call 8 [(.t 19), (.t 20)], none⟩,
  ⟨(some 18), .mv (.t 21), none⟩,
  ⟨(some 22), .ext (.t 18) 0, none⟩,
  ⟨(some 23), .ext (.t 18) 1, none⟩,
  ⟨(some 5), .mv (.t 22), none⟩,
  ⟨(some 6), .mv (.t 23), none⟩] false
abbrev c4_6 : AC := .reg [⟨(some 24), .mv (.t 3), none⟩,
  ⟨(some 25), .len (.t 24), none⟩,
  ⟨(some 26), .bin .eql (.t 25) (.k (.I 2)), none⟩,
  ⟨(some 27), .mv (.t 26), none⟩,
  ⟨(some 28), .mv (.t 4), (some (27, true))⟩,
  ⟨(some 29), .bin .eql (.t 28) (.k (.I 0)), (some (27, true))⟩,
  ⟨(some 30), .pick (.t 27) (.t 29) (.k (.B false)), none⟩,
  ⟨(some 31), .mv (.t 30), none⟩,
  ⟨(some 32), .mv (.t 5), (some (31, true))⟩,
  ⟨(some 33), .mv (.t 2), (some (31, true))⟩,
  ⟨(some 34), .call 7 [(.t 32), (.t 33)], (some (31, true))⟩,
  ⟨(some 35), .pick (.t 31) (.t 34) (.k (.B false)), none⟩,
  ⟨(some 36), .mv (.t 35), none⟩,
  ⟨(some 37), .mv (.t 6), (some (36, true))⟩,
  ⟨(some 38), .bin .eql (.t 37) (.k (.I 0)), (some (36, true))⟩,
  ⟨(some 39), .pick (.t 36) (.t 38) (.k (.B false)), none⟩,
  ⟨(some 0), .mv (.t 39), none⟩] false
abbrev c4_7 : AC := .seq c4_6 .ret
abbrev c4_8 : AC := .seq c4_5 c4_7
abbrev c4_9 : AC := .seq c4_4 c4_8
abbrev c4_10 : AC := .seq c4_3 c4_9
abbrev c4_11 : AC := .seq c4_2 c4_10
abbrev c4_12 : AC := .seq c4_1 c4_11
abbrev c4 : AC := c4_12
theorem code4 : fnCode Try.prog 4 = some (c4, [0], 40) := by kernel_rfl

end Go.Proofs.Ythpnplebcmijnaa

