/-
  Lemmas for the proof: no statement of its own.
-/
import Derived.Test.YtebmhidhimgfiaaIterA
import Derived.Test.YtebmhidhimgfiaaPlain
import Derived.Test.YtebmhidhimgfiaaWalkB
set_option linter.unusedVariables false
set_option linter.unusedSimpArgs false
-- P p_27.txt
open Go Go.AL Go.RowKit
namespace Go.Proofs.Ytebmhidhimgfiaa
set_option maxRecDepth 20000
/- coinage/coinagelaw27.ConsecutiveRows -/
abbrev c3_1 : AC := .reg [⟨(some 6), .mv (.k (.B false)), none⟩] false
abbrev c3_2 : AC := .reg [⟨(some 22), .call 9 [], none⟩,
  ⟨(some 23), .not (.t 22), none⟩,
  ⟨(some 24), .mv (.t 23), none⟩,
  ⟨(some 25), .mv (.t 0), (some (24, false))⟩,
  ⟨(some 26), .mv (.t 1), (some (24, false))⟩,
  ⟨(some 27), .call 10 [(.t 25), (.t 26)], (some (24, false))⟩,
  ⟨(some 28), .not (.t 27), (some (24, false))⟩,
  ⟨(some 29), .pick (.t 24) (.k (.B true)) (.t 28), none⟩,
  ⟨(some 30), .mv (.t 29), none⟩,
  ⟨(some 31), .mv (.t 1), (some (30, false))⟩,
  ⟨(some 32), .len (.t 31), (some (30, false))⟩,
  ⟨(some 33), .bin .eql (.t 32) (.k (.I 0)), (some (30, false))⟩,
  ⟨(some 34), .pick (.t 30) (.k (.B true)) (.t 33), none⟩,
  ⟨(some 35), .mv (.t 34), none⟩,
  ⟨(some 36), .mv (.t 1), (some (35, false))⟩,
  ⟨(some 37), .len (.t 36), (some (35, false))⟩,
  ⟨(some 38), .bin .gtr (.t 37) (.k (.I 15)), (some (35, false))⟩,
  ⟨(some 39), .pick (.t 35) (.k (.B true)) (.t 38), none⟩] false
abbrev c3_3 : AC := .reg [⟨(some 40), .call 9 [], none⟩,
  ⟨(some 6), .mv (.t 40), none⟩] false
abbrev c3_4 : AC := .seq c3_3 .ret
abbrev c3_5 : AC := .cond (.t 39) c3_4 .skip
abbrev c3_6 : AC := .seq c3_2 c3_5
abbrev c3_7 : AC := .reg [⟨(some 42), .mv (.t 0), none⟩,
  ⟨(some 43), .mv (.t 1), none⟩,
  ⟨(some 44), .call 11 [(.t 42), (.t 43)], none⟩,
  ⟨(some 41), .mv (.t 44), none⟩,
  ⟨(some 45), .ext (.t 41) 0, none⟩,
  ⟨(some 46), .ext (.t 41) 1, none⟩,
  ⟨(some 7), .mv (.t 45), none⟩,
  ⟨(some 8), .mv (.t 46), none⟩] false
abbrev c3_8 : AC := .reg [⟨(some 47), .mv (.t 8), none⟩,
  ⟨(some 48), .bin .neq (.t 47) (.k (.I 0)), none⟩,
  ⟨(some 49), .mv (.t 48), none⟩,
  ⟨(some 50), .mv (.t 0), (some (49, false))⟩,
  ⟨(some 51), .bin .lss (.t 50) (.k (.I 0)), (some (49, false))⟩,
  ⟨(some 52), .pick (.t 49) (.k (.B true)) (.t 51), none⟩,
  ⟨(some 53), .mv (.t 52), none⟩,
  ⟨(some 54), .mv (.t 0), (some (53, false))⟩,
  ⟨(some 55), .bin .gtr (.t 54) (.k (.I 7)), (some (53, false))⟩,
  ⟨(some 56), .pick (.t 53) (.k (.B true)) (.t 55), none⟩] false
abbrev c3_9 : AC := .reg [⟨(some 57), .mv (.t 8), none⟩,
  ⟨(some 58), .bin .eql (.t 57) (.k (.I 1)), none⟩,
  ⟨(some 59), .mv (.t 58), none⟩,
  ⟨(some 60), .mv (.t 7), (some (59, true))⟩,
  ⟨(some 61), .bin .eql (.t 60) (.k (.I 0)), (some (59, true))⟩,
  ⟨(some 62), .pick (.t 59) (.t 61) (.k (.B false)), none⟩,
  ⟨(some 6), .mv (.t 62), none⟩] false
abbrev c3_10 : AC := .seq c3_9 .ret
abbrev c3_11 : AC := .cond (.t 56) c3_10 .skip
abbrev c3_12 : AC := .seq c3_8 c3_11
abbrev c3_13 : AC := .reg [⟨(some 63), .mv (.t 2), none⟩,
  ⟨(some 64), .conv .i64 (.t 63), none⟩,
  ⟨(some 65), .mv (.t 1), none⟩,
  ⟨(some 66), .len (.t 65), none⟩,
  ⟨(some 67), .bin .rem (.t 64) (.t 66), none⟩,
  ⟨(some 9), .mv (.t 67), none⟩] false
abbrev c3_14 : AC := .regX (.first ⟨(some 69), .mv (.t 1), none⟩
  (.first ⟨(some 70), .mv (.t 9), none⟩
  (.first ⟨(some 71), .slc 1 (.t 69) none (some (.t 70)), none⟩
  (.first ⟨(some 73), .mv (.t 1), none⟩
  (.first ⟨(some 74), .mv (.t 9), none⟩
  (.first ⟨(some 75), .bin .add (.t 74) (.k (.I 1)), none⟩
  (.first ⟨(some 76), .slc 1 (.t 73) (some (.t 75)) none, none⟩
  (.fork ⟨(some 68), .bslice 28 1 [], none⟩
  (.fork ⟨(some 72), .app 28 1 24 (.t 68) (.t 71), none⟩
  (.fork ⟨(some 77), .app 28 1 24 (.t 72) (.t 76), none⟩
  (.first ⟨(some 10), .mv (.t 77), none⟩
  .done)
  .nope)
  .nope)
  .nope))))))))
abbrev c3_15 : AC := .reg [⟨(some 79), .mv (.t 0), none⟩,
  ⟨(some 80), .mv (.t 10), none⟩,
  ⟨(some 81), .call 11 [(.t 79), (.t 80)], none⟩,
  ⟨(some 78), .mv (.t 81), none⟩,
  ⟨(some 82), .ext (.t 78) 0, none⟩,
  ⟨(some 83), .ext (.t 78) 1, none⟩,
  ⟨(some 11), .mv (.t 82), none⟩,
  ⟨(some 12), .mv (.t 83), none⟩] false
abbrev c3_16 : AC := .reg [⟨(some 13), .mv (.k (.c .nil)), none⟩] false
abbrev c3_17 : AC := .reg [⟨(some 14), .mv (.k (.I 0)), none⟩] false
abbrev c3_18 : AC := .reg [⟨(some 84), .mv (.t 14), none⟩,
  ⟨(some 85), .mv (.t 0), none⟩,
  ⟨(some 86), .bin .lss (.t 84) (.t 85), none⟩] false
abbrev c3_19 : AC := .cond (.t 86) .skip (.exit 0)
abbrev c3_20 : AC := .seq c3_18 c3_19
abbrev c3_21 : AC := .reg [⟨(some 89), .mv (.t 13), none⟩,
  ⟨(some 90), .mv (.t 14), none⟩,
  ⟨(some 91), .bslice 3 1 [(.t 90)], none⟩,
  ⟨(some 92), .app 3 1 8 (.t 89) (.t 91), none⟩,
  ⟨(some 13), .mv (.t 92), none⟩] false
abbrev c3_22 : AC := .block 1 c3_21
abbrev c3_23 : AC := .reg [⟨(some 87), .mv (.t 14), none⟩,
  ⟨(some 88), .bin .add (.t 87) (.k (.I 1)), none⟩,
  ⟨(some 14), .mv (.t 88), none⟩] false
abbrev c3_24 : AC := .seq c3_22 c3_23
abbrev c3_25 : AC := .seq c3_20 c3_24
abbrev c3_26 : AC := .loop c3_25
abbrev c3_27 : AC := .block 0 c3_26
abbrev c3_28 : AC := .seq c3_17 c3_27
abbrev c3_29 : AC := .reg [⟨(some 94), .mv (.t 0), none⟩,
  ⟨(some 95), .mv (.t 1), none⟩,
  ⟨(some 96), .call 12 [(.t 95)], none⟩,
  ⟨(some 97), .bslice 28 1 [(.k (.c .nil))], none⟩,
  ⟨(some 98), .app 28 1 24 (.t 96) (.t 97), none⟩,
  ⟨(some 99), .call 11 [(.t 94), (.t 98)], none⟩,
  ⟨(some 93), .mv (.t 99), none⟩,
  ⟨(some 100), .ext (.t 93) 0, none⟩,
  ⟨(some 101), .ext (.t 93) 1, none⟩,
  ⟨(some 15), .mv (.t 100), none⟩,
  ⟨(some 16), .mv (.t 101), none⟩] false
abbrev c3_30 : AC := .reg [⟨(some 103), .mv (.t 0), none⟩,
  ⟨(some 104), .mv (.t 1), none⟩,
  ⟨(some 105), .call 12 [(.t 104)], none⟩,
  ⟨(some 106), .mv (.t 13), none⟩,
  ⟨(some 107), .bslice 28 1 [(.t 106)], none⟩,
  ⟨(some 108), .app 28 1 24 (.t 105) (.t 107), none⟩,
  ⟨(some 109), .call 11 [(.t 103), (.t 108)], none⟩,
  ⟨(some 102), .mv (.t 109), none⟩,
  ⟨(some 110), .ext (.t 102) 0, none⟩,
  ⟨(some 111), .ext (.t 102) 1, none⟩,
  ⟨(some 17), .mv (.t 110), none⟩,
  ⟨(some 18), .mv (.t 111), none⟩] false
abbrev c3_31 : AC := .regX (.first ⟨(some 113), .mv (.t 0), none⟩
  (.first ⟨(some 114), .mv (.t 1), none⟩
  (.first ⟨(some 116), .mv (.t 1), none⟩
  (.first ⟨(some 117), .mv (.t 9), none⟩
  (.first ⟨(some 118), .iad 1 (.t 116) (.t 117), none⟩
  (.fork ⟨(some 115), .call 12 [(.t 114)], none⟩
  (.fork ⟨(some 119), .ld none (.t 118), none⟩
  (.fork ⟨(some 120), .bslice 28 1 [(.t 119)], none⟩
  (.fork ⟨(some 121), .app 28 1 24 (.t 115) (.t 120), none⟩
  (.fork ⟨(some 122), .call 11 [(.t 113), (.t 121)], none⟩
  (.first ⟨(some 112), .mv (.t 122), none⟩
  (.first ⟨(some 123), .ext (.t 112) 0, none⟩
  (.first ⟨(some 124), .ext (.t 112) 1, none⟩
  (.first ⟨(some 19), .mv (.t 123), none⟩
  (.first ⟨(some 20), .mv (.t 124), none⟩
  .done)))))
  .nope)
  .nope)
  .nope)
  .nope)
  (.fork ⟨(some 119), .ld none (.t 118), none⟩
  (.fork ⟨(some 115), .call 12 [(.t 114)], none⟩
  (.fork ⟨(some 120), .bslice 28 1 [(.t 119)], none⟩
  (.fork ⟨(some 121), .app 28 1 24 (.t 115) (.t 120), none⟩
  (.fork ⟨(some 122), .call 11 [(.t 113), (.t 121)], none⟩
  (.first ⟨(some 112), .mv (.t 122), none⟩
  (.first ⟨(some 123), .ext (.t 112) 0, none⟩
  (.first ⟨(some 124), .ext (.t 112) 1, none⟩
  (.first ⟨(some 19), .mv (.t 123), none⟩
  (.first ⟨(some 20), .mv (.t 124), none⟩
  .done)))))
  .nope)
  .nope)
  .nope)
  (.fork ⟨(some 120), .bslice 28 1 [(.t 119)], none⟩
  (.fork ⟨(some 115), .call 12 [(.t 114)], none⟩
  (.fork ⟨(some 121), .app 28 1 24 (.t 115) (.t 120), none⟩
  (.fork ⟨(some 122), .call 11 [(.t 113), (.t 121)], none⟩
  (.first ⟨(some 112), .mv (.t 122), none⟩
  (.first ⟨(some 123), .ext (.t 112) 0, none⟩
  (.first ⟨(some 124), .ext (.t 112) 1, none⟩
  (.first ⟨(some 19), .mv (.t 123), none⟩
  (.first ⟨(some 20), .mv (.t 124), none⟩
  .done)))))
  .nope)
  .nope)
  .nope)
  .nope))
  .nope)))))))
abbrev c3_32 : AC := .reg [⟨(some 125), .mv (.t 7), none⟩,
  ⟨(some 21), .mv (.t 125), none⟩] false
abbrev c3_33 : AC := .reg [⟨(some 126), .mv (.t 0), none⟩,
  ⟨(some 127), .bin .gtr (.t 126) (.k (.I 0)), none⟩] false
abbrev c3_34 : AC := .regX (.first ⟨(some 129), .mv (.t 0), none⟩
  (.first ⟨(some 130), .mv (.t 1), none⟩
  (.first ⟨(some 132), .mv (.t 2), none⟩
  (.first ⟨(some 133), .conv .i64 (.t 132), none⟩
  (.first ⟨(some 134), .mv (.t 0), none⟩
  (.first ⟨(some 135), .bin .rem (.t 133) (.t 134), none⟩
  (.fork ⟨(some 131), .call 12 [(.t 130)], none⟩
  (.fork ⟨(some 136), .bslice 3 1 [(.t 135)], none⟩
  (.fork ⟨(some 137), .bslice 28 1 [(.t 136)], none⟩
  (.fork ⟨(some 138), .app 28 1 24 (.t 131) (.t 137), none⟩
  (.fork ⟨(some 139), .call 11 [(.t 129), (.t 138)], none⟩
  (.first ⟨(some 128), .mv (.t 139), none⟩
  (.first ⟨(some 140), .ext (.t 128) 0, none⟩
  (.first ⟨(some 141), .ext (.t 128) 1, none⟩
  (.first ⟨(some 21), .mv (.t 140), none⟩
  .done))))
  .nope)
  .nope)
  .nope)
  .nope)
  (.fork ⟨(some 136), .bslice 3 1 [(.t 135)], none⟩
  (.fork ⟨(some 131), .call 12 [(.t 130)], none⟩
  (.fork ⟨(some 137), .bslice 28 1 [(.t 136)], none⟩
  (.fork ⟨(some 138), .app 28 1 24 (.t 131) (.t 137), none⟩
  (.fork ⟨(some 139), .call 11 [(.t 129), (.t 138)], none⟩
  (.first ⟨(some 128), .mv (.t 139), none⟩
  (.first ⟨(some 140), .ext (.t 128) 0, none⟩
  (.first ⟨(some 141), .ext (.t 128) 1, none⟩
  (.first ⟨(some 21), .mv (.t 140), none⟩
  .done))))
  .nope)
  .nope)
  .nope)
  (.fork ⟨(some 137), .bslice 28 1 [(.t 136)], none⟩
  (.fork ⟨(some 131), .call 12 [(.t 130)], none⟩
  (.fork ⟨(some 138), .app 28 1 24 (.t 131) (.t 137), none⟩
  (.fork ⟨(some 139), .call 11 [(.t 129), (.t 138)], none⟩
  (.first ⟨(some 128), .mv (.t 139), none⟩
  (.first ⟨(some 140), .ext (.t 128) 0, none⟩
  (.first ⟨(some 141), .ext (.t 128) 1, none⟩
  (.first ⟨(some 21), .mv (.t 140), none⟩
  .done))))
  .nope)
  .nope)
  .nope)
  .nope))
  .nope))))))))
abbrev c3_35 : AC := .cond (.t 127) c3_34 .skip
abbrev c3_36 : AC := .seq c3_33 c3_35
abbrev c3_37 : AC := .reg [⟨(some 142), .mv (.t 12), none⟩,
  ⟨(some 143), .bin .eql (.t 142) (.k (.I 0)), none⟩,
  ⟨(some 144), .mv (.t 143), none⟩,
  ⟨(some 145), .mv (.t 16), (some (144, true))⟩,
  ⟨(some 146), .bin .eql (.t 145) (.k (.I 0)), (some (144, true))⟩,
  ⟨(some 147), .pick (.t 144) (.t 146) (.k (.B false)), none⟩,
  ⟨(some 148), .mv (.t 147), none⟩,
  ⟨(some 149), .mv (.t 18), (some (148, true))⟩,
  ⟨(some 150), .bin .eql (.t 149) (.k (.I 0)), (some (148, true))⟩,
  ⟨(some 151), .pick (.t 148) (.t 150) (.k (.B false)), none⟩,
  ⟨(some 152), .mv (.t 151), none⟩,
  ⟨(some 153), .mv (.t 20), (some (152, true))⟩,
  ⟨(some 154), .bin .eql (.t 153) (.k (.I 0)), (some (152, true))⟩,
  ⟨(some 155), .pick (.t 152) (.t 154) (.k (.B false)), none⟩,
  ⟨(some 156), .mv (.t 155), none⟩,
  ⟨(some 157), .mv (.t 11), (some (156, true))⟩,
  ⟨(some 158), .mv (.t 7), (some (156, true))⟩,
  ⟨(some 159), .bin .geq (.t 157) (.t 158), (some (156, true))⟩,
  ⟨(some 160), .pick (.t 156) (.t 159) (.k (.B false)), none⟩,
  ⟨(some 161), .mv (.t 160), none⟩,
  ⟨(some 162), .mv (.t 15), (some (161, true))⟩,
  ⟨(some 163), .mv (.t 7), (some (161, true))⟩,
  ⟨(some 164), .bin .eql (.t 162) (.t 163), (some (161, true))⟩,
  ⟨(some 165), .pick (.t 161) (.t 164) (.k (.B false)), none⟩,
  ⟨(some 166), .mv (.t 165), none⟩,
  ⟨(some 167), .mv (.t 17), (some (166, true))⟩,
  ⟨(some 168), .mv (.t 7), (some (166, true))⟩,
  ⟨(some 169), .bin .eql (.t 167) (.t 168), (some (166, true))⟩,
  ⟨(some 170), .pick (.t 166) (.t 169) (.k (.B false)), none⟩,
  ⟨(some 171), .mv (.t 170), none⟩,
  ⟨(some 172), .mv (.t 19), (some (171, true))⟩,
  ⟨(some 173), .mv (.t 7), (some (171, true))⟩,
  ⟨(some 174), .bin .eql (.t 172) (.t 173), (some (171, true))⟩,
  ⟨(some 175), .pick (.t 171) (.t 174) (.k (.B false)), none⟩,
  ⟨(some 176), .mv (.t 175), none⟩,
  ⟨(some 177), .mv (.t 21), (some (176, true))⟩,
  ⟨(some 178), .mv (.t 7), (some (176, true))⟩,
  ⟨(some 179), .bin .eql (.t 177) (.t 178), (some (176, true))⟩,
  ⟨(some 180), .pick (.t 176) (.t 179) (.k (.B false)), none⟩,
  ⟨(some 6), .mv (.t 180), none⟩] false
abbrev c3_38 : AC := .seq c3_37 .ret
abbrev c3_39 : AC := .seq c3_36 c3_38
abbrev c3_40 : AC := .seq c3_32 c3_39
abbrev c3_41 : AC := .seq c3_31 c3_40
abbrev c3_42 : AC := .seq c3_30 c3_41
abbrev c3_43 : AC := .seq c3_29 c3_42
abbrev c3_44 : AC := .seq c3_28 c3_43
abbrev c3_45 : AC := .seq c3_16 c3_44
abbrev c3_46 : AC := .seq c3_15 c3_45
abbrev c3_47 : AC := .seq c3_14 c3_46
abbrev c3_48 : AC := .seq c3_13 c3_47
abbrev c3_49 : AC := .seq c3_12 c3_48
abbrev c3_50 : AC := .seq c3_7 c3_49
abbrev c3_51 : AC := .seq c3_6 c3_50
abbrev c3_52 : AC := .seq c3_1 c3_51
abbrev c3 : AC := c3_52
theorem code3 : fnCode Try.prog 3 = some (c3, [6], 181) := by kernel_rfl
/- coinage/coinagelaw27.ConsecutiveOrders -/
abbrev c4_1 : AC := .reg [⟨(some 4), .mv (.k (.B false)), none⟩] false
abbrev c4_2 : AC := .reg [⟨(some 13), .call 9 [], none⟩,
  ⟨(some 14), .not (.t 13), none⟩,
  ⟨(some 15), .mv (.t 14), none⟩,
  ⟨(some 16), .mv (.t 0), (some (15, false))⟩,
  ⟨(some 17), .mv (.t 1), (some (15, false))⟩,
  ⟨(some 18), .call 10 [(.t 16), (.t 17)], (some (15, false))⟩,
  ⟨(some 19), .not (.t 18), (some (15, false))⟩,
  ⟨(some 20), .pick (.t 15) (.k (.B true)) (.t 19), none⟩] false
abbrev c4_3 : AC := .reg [⟨(some 21), .call 9 [], none⟩,
  ⟨(some 4), .mv (.t 21), none⟩] false
abbrev c4_4 : AC := .seq c4_3 .ret
abbrev c4_5 : AC := .cond (.t 20) c4_4 .skip
abbrev c4_6 : AC := .seq c4_2 c4_5
abbrev c4_7 : AC := .reg [⟨(some 23), .mv (.t 0), none⟩,
  ⟨(some 24), .mv (.t 1), none⟩,
  ⟨(some 25), .call 13 [(.t 23), (.t 24)], none⟩,
  ⟨(some 22), .mv (.t 25), none⟩,
  ⟨(some 26), .ext (.t 22) 0, none⟩,
  ⟨(some 27), .ext (.t 22) 1, none⟩,
  ⟨(some 5), .mv (.t 26), none⟩,
  ⟨(some 6), .mv (.t 27), none⟩] false
abbrev c4_8 : AC := .reg [⟨(some 29), .mv (.t 0), none⟩,
  ⟨(some 30), .mv (.t 1), none⟩,
  ⟨(some 31), .call 11 [(.t 29), (.t 30)], none⟩,
  ⟨(some 28), .mv (.t 31), none⟩,
  ⟨(some 32), .ext (.t 28) 0, none⟩,
  ⟨(some 33), .ext (.t 28) 1, none⟩,
  ⟨(some 7), .mv (.t 32), none⟩,
  ⟨(some 8), .mv (.t 33), none⟩] false
abbrev c4_9 : AC := .reg [⟨(some 35), .mv (.t 0), none⟩,
  ⟨(some 36), .mv (.t 1), none⟩,
  ⟨(some 37), .call 14 [(.t 35), (.t 36)], none⟩,
  ⟨(some 34), .mv (.t 37), none⟩,
  ⟨(some 38), .ext (.t 34) 0, none⟩,
  ⟨(some 39), .ext (.t 34) 1, none⟩,
  ⟨(some 9), .mv (.t 38), none⟩,
  ⟨(some 10), .mv (.t 39), none⟩] false
abbrev c4_10 : AC := .reg [⟨(some 41), .mv (.t 0), none⟩,
  ⟨(some 42), .mv (.t 1), none⟩,
  ⟨(some 43), .call 15 [(.t 41), (.t 42)], none⟩,
  ⟨(some 40), .mv (.t 43), none⟩,
  ⟨(some 44), .ext (.t 40) 0, none⟩,
  ⟨(some 45), .ext (.t 40) 1, none⟩,
  ⟨(some 11), .mv (.t 44), none⟩,
  ⟨(some 12), .mv (.t 45), none⟩] false
abbrev c4_11 : AC := .reg [⟨(some 46), .mv (.t 6), none⟩,
  ⟨(some 47), .mv (.t 10), none⟩,
  ⟨(some 48), .bin .eql (.t 46) (.t 47), none⟩,
  ⟨(some 49), .mv (.t 48), none⟩,
  ⟨(some 50), .mv (.t 8), (some (49, true))⟩,
  ⟨(some 51), .mv (.t 12), (some (49, true))⟩,
  ⟨(some 52), .bin .eql (.t 50) (.t 51), (some (49, true))⟩,
  ⟨(some 53), .pick (.t 49) (.t 52) (.k (.B false)), none⟩,
  ⟨(some 54), .mv (.t 53), none⟩,
  ⟨(some 55), .mv (.t 5), (some (54, true))⟩,
  ⟨(some 56), .mv (.t 9), (some (54, true))⟩,
  ⟨(some 57), .call 16 [(.t 55), (.t 56)], (some (54, true))⟩,
  ⟨(some 58), .pick (.t 54) (.t 57) (.k (.B false)), none⟩,
  ⟨(some 59), .mv (.t 58), none⟩,
  ⟨(some 60), .mv (.t 7), (some (59, true))⟩,
  ⟨(some 61), .mv (.t 11), (some (59, true))⟩,
  ⟨(some 62), .bin .eql (.t 60) (.t 61), (some (59, true))⟩,
  ⟨(some 63), .pick (.t 59) (.t 62) (.k (.B false)), none⟩,
  ⟨(some 64), .mv (.t 63), none⟩,
  ⟨(some 65), .mv (.t 0), (some (64, true))⟩,
  ⟨(some 66), .mv (.t 1), (some (64, true))⟩,
  ⟨(some 67), .call 17 [(.t 65), (.t 66)], (some (64, true))⟩,
  ⟨(some 68), .mv (.t 0), (some (64, true))⟩,
  ⟨(some 69), .mv (.t 1), (some (64, true))⟩,
  ⟨(some 70), .call 18 [(.t 68), (.t 69)], (some (64, true))⟩,
  ⟨(some 71), .beq false (.t 67) (.t 70), (some (64, true))⟩,
  ⟨(some 72), .pick (.t 64) (.t 71) (.k (.B false)), none⟩,
  ⟨(some 4), .mv (.t 72), none⟩] false
abbrev c4_12 : AC := .seq c4_11 .ret
abbrev c4_13 : AC := .seq c4_10 c4_12
abbrev c4_14 : AC := .seq c4_9 c4_13
abbrev c4_15 : AC := .seq c4_8 c4_14
abbrev c4_16 : AC := .seq c4_7 c4_15
abbrev c4_17 : AC := .seq c4_6 c4_16
abbrev c4_18 : AC := .seq c4_1 c4_17
abbrev c4 : AC := c4_18
theorem code4 : fnCode Try.prog 4 = some (c4, [4], 73) := by kernel_rfl
/- coinage/coinagelaw27.ConsecutiveRuns -/
abbrev c5_1 : AC := .reg [⟨(some 6), .mv (.k (.B false)), none⟩] false
abbrev c5_2 : AC := .reg [⟨(some 17), .call 9 [], none⟩,
  ⟨(some 18), .not (.t 17), none⟩,
  ⟨(some 19), .mv (.t 18), none⟩,
  ⟨(some 20), .mv (.t 0), (some (19, false))⟩,
  ⟨(some 21), .mv (.t 1), (some (19, false))⟩,
  ⟨(some 22), .call 10 [(.t 20), (.t 21)], (some (19, false))⟩,
  ⟨(some 23), .not (.t 22), (some (19, false))⟩,
  ⟨(some 24), .pick (.t 19) (.k (.B true)) (.t 23), none⟩,
  ⟨(some 25), .mv (.t 24), none⟩,
  ⟨(some 26), .mv (.t 2), (some (25, false))⟩,
  ⟨(some 27), .len (.t 26), (some (25, false))⟩,
  ⟨(some 28), .bin .gtr (.t 27) (.k (.I 30)), (some (25, false))⟩,
  ⟨(some 29), .pick (.t 25) (.k (.B true)) (.t 28), none⟩] false
abbrev c5_3 : AC := .reg [⟨(some 30), .call 9 [], none⟩,
  ⟨(some 6), .mv (.t 30), none⟩] false
abbrev c5_4 : AC := .seq c5_3 .ret
abbrev c5_5 : AC := .cond (.t 29) c5_4 .skip
abbrev c5_6 : AC := .seq c5_2 c5_5
abbrev c5_7 : AC := .reg [⟨(some 31), .mv (.t 1), none⟩,
  ⟨(some 32), .call 12 [(.t 31)], none⟩,
  ⟨(some 33), .bslice 3 1 [], none⟩,
  ⟨(some 34), .mv (.t 2), none⟩,
  ⟨(some 35), .app 3 1 8 (.t 33) (.t 34), none⟩,
  ⟨(some 7), .mv (.t 32), none⟩,
  ⟨(some 8), .mv (.t 35), none⟩] false
abbrev c5_8 : AC := .reg [⟨(some 37), .mv (.t 0), none⟩,
  ⟨(some 38), .mv (.t 7), none⟩,
  ⟨(some 39), .mv (.t 8), none⟩,
  ⟨(some 40), .call 19 [(.t 37), (.t 38), (.t 39)], none⟩,
  ⟨(some 36), .mv (.t 40), none⟩,
  ⟨(some 41), .ext (.t 36) 0, none⟩,
  ⟨(some 42), .ext (.t 36) 1, none⟩,
  ⟨(some 9), .mv (.t 41), none⟩,
  ⟨(some 10), .mv (.t 42), none⟩] false
abbrev c5_9 : AC := .reg [⟨(some 44), .mv (.t 0), none⟩,
  ⟨(some 45), .mv (.t 7), none⟩,
  ⟨(some 46), .mv (.t 8), none⟩,
  ⟨(some 47), .call 20 [(.t 44), (.t 45), (.t 46)], none⟩,
  ⟨(some 43), .mv (.t 47), none⟩,
  ⟨(some 48), .ext (.t 43) 0, none⟩,
  ⟨(some 49), .ext (.t 43) 1, none⟩,
  ⟨(some 11), .mv (.t 48), none⟩,
  ⟨(some 12), .mv (.t 49), none⟩] false
abbrev c5_10 : AC := .reg [⟨(some 51), .mv (.t 0), none⟩,
  ⟨(some 52), .mv (.t 1), none⟩,
  ⟨(some 53), .mv (.t 2), none⟩,
  ⟨(some 54), .call 21 [(.t 51), (.t 52), (.t 53)], none⟩,
  ⟨(some 50), .mv (.t 54), none⟩,
  ⟨(some 55), .ext (.t 50) 0, none⟩,
  ⟨(some 56), .ext (.t 50) 1, none⟩,
  ⟨(some 13), .mv (.t 55), none⟩,
  ⟨(some 14), .mv (.t 56), none⟩] false
abbrev c5_11 : AC := .reg [⟨(some 58), .mv (.t 0), none⟩,
  ⟨(some 59), .mv (.t 1), none⟩,
  ⟨(some 60), .mv (.t 2), none⟩,
  ⟨(some 61), .call 22 [(.t 58), (.t 59), (.t 60)], none⟩,
  ⟨(some 57), .mv (.t 61), none⟩,
  ⟨(some 62), .ext (.t 57) 0, none⟩,
  ⟨(some 63), .ext (.t 57) 1, none⟩,
  ⟨(some 15), .mv (.t 62), none⟩,
  ⟨(some 16), .mv (.t 63), none⟩] false
abbrev c5_12 : AC := .reg [⟨(some 64), .mv (.t 10), none⟩,
  ⟨(some 65), .mv (.t 14), none⟩,
  ⟨(some 66), .bin .eql (.t 64) (.t 65), none⟩,
  ⟨(some 67), .mv (.t 66), none⟩,
  ⟨(some 68), .mv (.t 12), (some (67, true))⟩,
  ⟨(some 69), .mv (.t 16), (some (67, true))⟩,
  ⟨(some 70), .bin .eql (.t 68) (.t 69), (some (67, true))⟩,
  ⟨(some 71), .pick (.t 67) (.t 70) (.k (.B false)), none⟩,
  ⟨(some 72), .mv (.t 71), none⟩,
  ⟨(some 73), .mv (.t 9), (some (72, true))⟩,
  ⟨(some 74), .mv (.t 13), (some (72, true))⟩,
  ⟨(some 75), .call 16 [(.t 73), (.t 74)], (some (72, true))⟩,
  ⟨(some 76), .pick (.t 72) (.t 75) (.k (.B false)), none⟩,
  ⟨(some 77), .mv (.t 76), none⟩,
  ⟨(some 78), .mv (.t 11), (some (77, true))⟩,
  ⟨(some 79), .mv (.t 15), (some (77, true))⟩,
  ⟨(some 80), .bin .eql (.t 78) (.t 79), (some (77, true))⟩,
  ⟨(some 81), .pick (.t 77) (.t 80) (.k (.B false)), none⟩,
  ⟨(some 82), .mv (.t 81), none⟩,
  ⟨(some 83), .mv (.t 0), (some (82, true))⟩,
  ⟨(some 84), .mv (.t 7), (some (82, true))⟩,
  ⟨(some 85), .call 23 [(.t 83), (.t 84)], (some (82, true))⟩,
  ⟨(some 86), .mv (.t 0), (some (82, true))⟩,
  ⟨(some 87), .mv (.t 1), (some (82, true))⟩,
  ⟨(some 88), .call 24 [(.t 86), (.t 87)], (some (82, true))⟩,
  ⟨(some 89), .beq false (.t 85) (.t 88), (some (82, true))⟩,
  ⟨(some 90), .pick (.t 82) (.t 89) (.k (.B false)), none⟩,
  ⟨(some 91), .mv (.t 90), none⟩,
  ⟨(some 92), .mv (.t 0), (some (91, true))⟩,
  ⟨(some 93), .mv (.t 7), (some (91, true))⟩,
  ⟨(some 94), .mv (.t 8), (some (91, true))⟩,
  ⟨(some 95), .call 25 [(.t 92), (.t 93), (.t 94)], (some (91, true))⟩,
  ⟨(some 96), .mv (.t 0), (some (91, true))⟩,
  ⟨(some 97), .mv (.t 1), (some (91, true))⟩,
  ⟨(some 98), .mv (.t 2), (some (91, true))⟩,
  ⟨(some 99), .call 26 [(.t 96), (.t 97), (.t 98)], (some (91, true))⟩,
  ⟨(some 100), .beq false (.t 95) (.t 99), (some (91, true))⟩,
  ⟨(some 101), .pick (.t 91) (.t 100) (.k (.B false)), none⟩,
  ⟨(some 102), .mv (.t 101), none⟩,
  ⟨(some 103), .mv (.t 7), (some (102, true))⟩,
  ⟨(some 104), .mv (.t 1), (some (102, true))⟩,
  ⟨(some 105), .call 27 [(.t 103), (.t 104)], (some (102, true))⟩,
  ⟨(some 106), .pick (.t 102) (.t 105) (.k (.B false)), none⟩,
  ⟨(some 107), .mv (.t 106), none⟩,
  ⟨(some 108), .mv (.t 8), (some (107, true))⟩,
  ⟨(some 109), .mv (.t 2), (some (107, true))⟩,
  ⟨(some 110), .call 16 [(.t 108), (.t 109)], (some (107, true))⟩,
  ⟨(some 111), .pick (.t 107) (.t 110) (.k (.B false)), none⟩,
  ⟨(some 6), .mv (.t 111), none⟩] false
abbrev c5_13 : AC := .seq c5_12 .ret
abbrev c5_14 : AC := .seq c5_11 c5_13
abbrev c5_15 : AC := .seq c5_10 c5_14
abbrev c5_16 : AC := .seq c5_9 c5_15
abbrev c5_17 : AC := .seq c5_8 c5_16
abbrev c5_18 : AC := .seq c5_7 c5_17
abbrev c5_19 : AC := .seq c5_6 c5_18
abbrev c5_20 : AC := .seq c5_1 c5_19
abbrev c5 : AC := c5_20
theorem code5 : fnCode Try.prog 5 = some (c5, [6], 112) := by kernel_rfl
/- coinage/coinagelaw27.ConsecutiveTurns -/
abbrev c6_1 : AC := .reg [⟨(some 6), .mv (.k (.B false)), none⟩] false
abbrev c6_2 : AC := .reg [⟨(some 15), .call 9 [], none⟩,
  ⟨(some 16), .not (.t 15), none⟩,
  ⟨(some 17), .mv (.t 16), none⟩,
  ⟨(some 18), .mv (.t 0), (some (17, false))⟩,
  ⟨(some 19), .mv (.t 1), (some (17, false))⟩,
  ⟨(some 20), .call 10 [(.t 18), (.t 19)], (some (17, false))⟩,
  ⟨(some 21), .not (.t 20), (some (17, false))⟩,
  ⟨(some 22), .pick (.t 17) (.k (.B true)) (.t 21), none⟩,
  ⟨(some 23), .mv (.t 22), none⟩,
  ⟨(some 24), .mv (.t 2), (some (23, false))⟩,
  ⟨(some 25), .len (.t 24), (some (23, false))⟩,
  ⟨(some 26), .bin .gtr (.t 25) (.k (.I 30)), (some (23, false))⟩,
  ⟨(some 27), .pick (.t 23) (.k (.B true)) (.t 26), none⟩] false
abbrev c6_3 : AC := .reg [⟨(some 28), .call 9 [], none⟩,
  ⟨(some 6), .mv (.t 28), none⟩] false
abbrev c6_4 : AC := .seq c6_3 .ret
abbrev c6_5 : AC := .cond (.t 27) c6_4 .skip
abbrev c6_6 : AC := .seq c6_2 c6_5
abbrev c6_7 : AC := .reg [⟨(some 29), .mv (.t 2), none⟩,
  ⟨(some 30), .len (.t 29), none⟩,
  ⟨(some 31), .mks 3 1 8 [(.sc (.int .i64 0))] (.t 30) (.t 30), none⟩,
  ⟨(some 7), .mv (.t 31), none⟩] false
abbrev c6_8 : AC := .reg [⟨(some 8), .mv (.k (.I 0)), none⟩] false
abbrev c6_9 : AC := .reg [⟨(some 32), .mv (.t 8), none⟩,
  ⟨(some 33), .mv (.t 2), none⟩,
  ⟨(some 34), .len (.t 33), none⟩,
  ⟨(some 35), .bin .lss (.t 32) (.t 34), none⟩] false
abbrev c6_10 : AC := .cond (.t 35) .skip (.exit 0)
abbrev c6_11 : AC := .seq c6_9 c6_10
abbrev c6_12 : AC := .reg [⟨(some 38), .mv (.t 7), none⟩,
  ⟨(some 39), .mv (.t 2), none⟩,
  ⟨(some 40), .len (.t 39), none⟩,
  ⟨(some 41), .bin .sub (.t 40) (.k (.I 1)), none⟩,
  ⟨(some 42), .mv (.t 8), none⟩,
  ⟨(some 43), .bin .sub (.t 41) (.t 42), none⟩,
  ⟨(some 44), .mv (.t 2), none⟩,
  ⟨(some 45), .mv (.t 8), none⟩,
  ⟨(some 46), .iad 1 (.t 44) (.t 45), none⟩,
  ⟨(some 47), .ld none (.t 46), none⟩,
  ⟨(some 48), .iad 1 (.t 38) (.t 43), none⟩,
  ⟨none, .st none (.t 48) (.t 47), none⟩] false
abbrev c6_13 : AC := .block 1 c6_12
abbrev c6_14 : AC := .reg [⟨(some 36), .mv (.t 8), none⟩,
  ⟨(some 37), .bin .add (.t 36) (.k (.I 1)), none⟩,
  ⟨(some 8), .mv (.t 37), none⟩] false
abbrev c6_15 : AC := .seq c6_13 c6_14
abbrev c6_16 : AC := .seq c6_11 c6_15
abbrev c6_17 : AC := .loop c6_16
abbrev c6_18 : AC := .block 0 c6_17
abbrev c6_19 : AC := .seq c6_8 c6_18
abbrev c6_20 : AC := .reg [⟨(some 50), .mv (.t 0), none⟩,
  ⟨(some 51), .mv (.t 1), none⟩,
  ⟨(some 52), .mv (.t 2), none⟩,
  ⟨(some 53), .call 19 [(.t 50), (.t 51), (.t 52)], none⟩,
  ⟨(some 49), .mv (.t 53), none⟩,
  ⟨(some 54), .ext (.t 49) 0, none⟩,
  ⟨(some 55), .ext (.t 49) 1, none⟩,
  ⟨(some 9), .mv (.t 54), none⟩,
  ⟨(some 10), .mv (.t 55), none⟩] false
abbrev c6_21 : AC := .reg [⟨(some 57), .mv (.t 0), none⟩,
  ⟨(some 58), .mv (.t 1), none⟩,
  ⟨(some 59), .mv (.t 7), none⟩,
  ⟨(some 60), .call 19 [(.t 57), (.t 58), (.t 59)], none⟩,
  ⟨(some 56), .mv (.t 60), none⟩,
  ⟨(some 61), .ext (.t 56) 0, none⟩,
  ⟨(some 62), .ext (.t 56) 1, none⟩,
  ⟨(some 11), .mv (.t 61), none⟩,
  ⟨(some 12), .mv (.t 62), none⟩] false
abbrev c6_22 : AC := .reg [⟨(some 64), .mv (.t 0), none⟩,
  ⟨(some 65), .mv (.t 1), none⟩,
  ⟨(some 66), .call 11 [(.t 64), (.t 65)], none⟩,
  ⟨(some 63), .mv (.t 66), none⟩,
  ⟨(some 67), .ext (.t 63) 0, none⟩,
  ⟨(some 68), .ext (.t 63) 1, none⟩,
  ⟨(some 13), .mv (.t 67), none⟩,
  ⟨(some 14), .mv (.t 68), none⟩] false
abbrev c6_23 : AC := .reg [⟨(some 69), .mv (.t 10), none⟩,
  ⟨(some 70), .mv (.t 12), none⟩,
  ⟨(some 71), .bin .eql (.t 69) (.t 70), none⟩,
  ⟨(some 72), .mv (.t 71), none⟩,
  ⟨(some 73), .mv (.t 9), (some (72, true))⟩,
  ⟨(some 74), .mv (.t 11), (some (72, true))⟩,
  ⟨(some 75), .call 16 [(.t 73), (.t 74)], (some (72, true))⟩,
  ⟨(some 76), .pick (.t 72) (.t 75) (.k (.B false)), none⟩,
  ⟨(some 77), .mv (.t 76), none⟩,
  ⟨(some 78), .mv (.t 0), (some (77, true))⟩,
  ⟨(some 79), .mv (.t 1), (some (77, true))⟩,
  ⟨(some 80), .mv (.t 2), (some (77, true))⟩,
  ⟨(some 81), .call 25 [(.t 78), (.t 79), (.t 80)], (some (77, true))⟩,
  ⟨(some 82), .mv (.t 0), (some (77, true))⟩,
  ⟨(some 83), .mv (.t 1), (some (77, true))⟩,
  ⟨(some 84), .mv (.t 7), (some (77, true))⟩,
  ⟨(some 85), .call 25 [(.t 82), (.t 83), (.t 84)], (some (77, true))⟩,
  ⟨(some 86), .beq false (.t 81) (.t 85), (some (77, true))⟩,
  ⟨(some 87), .pick (.t 77) (.t 86) (.k (.B false)), none⟩,
  ⟨(some 88), .mv (.t 87), none⟩,
  ⟨(some 89), .mv (.t 14), (some (88, true))⟩,
  ⟨(some 90), .bin .neq (.t 89) (.k (.I 0)), (some (88, true))⟩,
  ⟨(some 91), .mv (.t 90), (some (88, true))⟩,
  ⟨(some 92), .mv (.t 0), (some (91, false))⟩,
  ⟨(some 93), .bin .lss (.t 92) (.k (.I 2)), (some (91, false))⟩,
  ⟨(some 94), .pick (.t 91) (.k (.B true)) (.t 93), (some (88, true))⟩,
  ⟨(some 95), .mv (.t 94), (some (88, true))⟩,
  ⟨(some 96), .mv (.t 13), (some (95, false))⟩,
  ⟨(some 97), .bin .rem (.t 96) (.k (.I 2)), (some (95, false))⟩,
  ⟨(some 98), .bin .eql (.t 97) (.k (.I 0)), (some (95, false))⟩,
  ⟨(some 99), .pick (.t 95) (.k (.B true)) (.t 98), (some (88, true))⟩,
  ⟨(some 100), .pick (.t 88) (.t 99) (.k (.B false)), none⟩,
  ⟨(some 6), .mv (.t 100), none⟩] false
abbrev c6_24 : AC := .seq c6_23 .ret
abbrev c6_25 : AC := .seq c6_22 c6_24
abbrev c6_26 : AC := .seq c6_21 c6_25
abbrev c6_27 : AC := .seq c6_20 c6_26
abbrev c6_28 : AC := .seq c6_19 c6_27
abbrev c6_29 : AC := .seq c6_7 c6_28
abbrev c6_30 : AC := .seq c6_6 c6_29
abbrev c6_31 : AC := .seq c6_1 c6_30
abbrev c6 : AC := c6_31
theorem code6 : fnCode Try.prog 6 = some (c6, [6], 101) := by kernel_rfl
/- coinage/coinagelaw27.ConsecutiveUnions -/
abbrev c7_1 : AC := .reg [⟨(some 6), .mv (.k (.B false)), none⟩] false
abbrev c7_2 : AC := .reg [⟨(some 12), .call 9 [], none⟩,
  ⟨(some 13), .not (.t 12), none⟩,
  ⟨(some 14), .mv (.t 13), none⟩,
  ⟨(some 15), .mv (.t 0), (some (14, false))⟩,
  ⟨(some 16), .mv (.t 1), (some (14, false))⟩,
  ⟨(some 17), .call 10 [(.t 15), (.t 16)], (some (14, false))⟩,
  ⟨(some 18), .not (.t 17), (some (14, false))⟩,
  ⟨(some 19), .pick (.t 14) (.k (.B true)) (.t 18), none⟩,
  ⟨(some 20), .mv (.t 19), none⟩,
  ⟨(some 21), .mv (.t 2), (some (20, false))⟩,
  ⟨(some 22), .len (.t 21), (some (20, false))⟩,
  ⟨(some 23), .bin .gtr (.t 22) (.k (.I 30)), (some (20, false))⟩,
  ⟨(some 24), .pick (.t 20) (.k (.B true)) (.t 23), none⟩,
  ⟨(some 25), .mv (.t 24), none⟩,
  ⟨(some 26), .mv (.t 1), (some (25, false))⟩,
  ⟨(some 27), .len (.t 26), (some (25, false))⟩,
  ⟨(some 28), .bin .lss (.t 27) (.k (.I 2)), (some (25, false))⟩,
  ⟨(some 29), .pick (.t 25) (.k (.B true)) (.t 28), none⟩,
  ⟨(some 30), .mv (.t 29), none⟩,
  ⟨(some 31), .mv (.t 0), (some (30, false))⟩,
  ⟨(some 32), .mv (.t 1), (some (30, false))⟩,
  ⟨(some 33), .call 24 [(.t 31), (.t 32)], (some (30, false))⟩,
  ⟨(some 34), .not (.t 33), (some (30, false))⟩,
  ⟨(some 35), .pick (.t 30) (.k (.B true)) (.t 34), none⟩] false
abbrev c7_3 : AC := .reg [⟨(some 36), .call 9 [], none⟩,
  ⟨(some 6), .mv (.t 36), none⟩] false
abbrev c7_4 : AC := .seq c7_3 .ret
abbrev c7_5 : AC := .cond (.t 35) c7_4 .skip
abbrev c7_6 : AC := .seq c7_2 c7_5
abbrev c7_7 : AC := .reg [⟨(some 37), .mv (.t 0), none⟩,
  ⟨(some 38), .mv (.t 1), none⟩,
  ⟨(some 39), .slc 1 (.t 38) none (some (.k (.I 2))), none⟩,
  ⟨(some 40), .mv (.t 2), none⟩,
  ⟨(some 41), .call 25 [(.t 37), (.t 39), (.t 40)], none⟩,
  ⟨(some 42), .not (.t 41), none⟩] false
abbrev c7_8 : AC := .reg [⟨(some 6), .mv (.k (.B true)), none⟩] false
abbrev c7_9 : AC := .seq c7_8 .ret
abbrev c7_10 : AC := .cond (.t 42) c7_9 .skip
abbrev c7_11 : AC := .seq c7_7 c7_10
abbrev c7_12 : AC := .reg [⟨(some 7), .mv (.k (.c .nil)), none⟩,
  ⟨(some 8), .mv (.k (.c .nil)), none⟩] false
abbrev c7_13 : AC := .reg [⟨(some 9), .mv (.k (.I 0)), none⟩] false
abbrev c7_14 : AC := .reg [⟨(some 43), .mv (.t 9), none⟩,
  ⟨(some 44), .mv (.t 0), none⟩,
  ⟨(some 45), .bin .lss (.t 43) (.t 44), none⟩] false
abbrev c7_15 : AC := .cond (.t 45) .skip (.exit 0)
abbrev c7_16 : AC := .seq c7_14 c7_15
abbrev c7_17 : AC := .regD [(⟨(some 48), .mv (.t 1), none⟩, [1]),
  (⟨(some 49), .iad 1 (.t 48) (.k (.I 0)), none⟩, [48]),
  (⟨(some 50), .ld none (.t 49), none⟩, [49]),
  (⟨(some 51), .mv (.t 9), none⟩, [9]),
  (⟨(some 52), .call 28 [(.t 50), (.t 51)], none⟩, [50, 51]),
  (⟨(some 53), .mv (.t 1), none⟩, [1]),
  (⟨(some 54), .iad 1 (.t 53) (.k (.I 1)), none⟩, [53]),
  (⟨(some 55), .ld none (.t 54), none⟩, [54]),
  (⟨(some 56), .mv (.t 9), none⟩, [9]),
  (⟨(some 57), .call 28 [(.t 55), (.t 56)], none⟩, [55, 56]),
  (⟨(some 10), .mv (.t 52), none⟩, [52]),
  (⟨(some 11), .mv (.t 57), none⟩, [57])]
abbrev c7_18 : AC := .reg [⟨(some 58), .mv (.t 10), none⟩,
  ⟨(some 59), .mv (.t 58), none⟩,
  ⟨(some 60), .mv (.t 11), (some (59, false))⟩,
  ⟨(some 61), .pick (.t 59) (.k (.B true)) (.t 60), none⟩] false
abbrev c7_19 : AC := .reg [⟨(some 62), .mv (.t 7), none⟩,
  ⟨(some 63), .mv (.t 9), none⟩,
  ⟨(some 64), .bslice 3 1 [(.t 63)], none⟩,
  ⟨(some 65), .app 3 1 8 (.t 62) (.t 64), none⟩,
  ⟨(some 7), .mv (.t 65), none⟩] false
abbrev c7_20 : AC := .cond (.t 61) c7_19 .skip
abbrev c7_21 : AC := .seq c7_18 c7_20
abbrev c7_22 : AC := .reg [⟨(some 66), .mv (.t 10), none⟩,
  ⟨(some 67), .mv (.t 66), none⟩,
  ⟨(some 68), .mv (.t 11), (some (67, true))⟩,
  ⟨(some 69), .pick (.t 67) (.t 68) (.k (.B false)), none⟩] false
abbrev c7_23 : AC := .reg [⟨(some 70), .mv (.t 8), none⟩,
  ⟨(some 71), .mv (.t 9), none⟩,
  ⟨(some 72), .bslice 3 1 [(.t 71)], none⟩,
  ⟨(some 73), .app 3 1 8 (.t 70) (.t 72), none⟩,
  ⟨(some 8), .mv (.t 73), none⟩] false
abbrev c7_24 : AC := .cond (.t 69) c7_23 .skip
abbrev c7_25 : AC := .seq c7_22 c7_24
abbrev c7_26 : AC := .seq c7_21 c7_25
abbrev c7_27 : AC := .seq c7_17 c7_26
abbrev c7_28 : AC := .block 1 c7_27
abbrev c7_29 : AC := .reg [⟨(some 46), .mv (.t 9), none⟩,
  ⟨(some 47), .bin .add (.t 46) (.k (.I 1)), none⟩,
  ⟨(some 9), .mv (.t 47), none⟩] false
abbrev c7_30 : AC := .seq c7_28 c7_29
abbrev c7_31 : AC := .seq c7_16 c7_30
abbrev c7_32 : AC := .loop c7_31
abbrev c7_33 : AC := .block 0 c7_32
abbrev c7_34 : AC := .seq c7_13 c7_33
abbrev c7_35 : AC := .reg [⟨(some 74), .mv (.t 8), none⟩,
  ⟨(some 75), .len (.t 74), none⟩,
  ⟨(some 76), .bin .eql (.t 75) (.k (.I 0)), none⟩,
  ⟨(some 77), .mv (.t 76), none⟩,
  ⟨(some 78), .mv (.t 0), (some (77, false))⟩,
  ⟨(some 79), .mv (.t 7), (some (77, false))⟩,
  ⟨(some 80), .mv (.t 8), (some (77, false))⟩,
  ⟨(some 81), .bslice 28 1 [(.t 79), (.t 80)], (some (77, false))⟩,
  ⟨(some 82), .mv (.t 2), (some (77, false))⟩,
  ⟨(some 83), .call 25 [(.t 78), (.t 81), (.t 82)], (some (77, false))⟩,
  ⟨(some 84), .pick (.t 77) (.k (.B true)) (.t 83), none⟩,
  ⟨(some 6), .mv (.t 84), none⟩] false
abbrev c7_36 : AC := .seq c7_35 .ret
abbrev c7_37 : AC := .seq c7_34 c7_36
abbrev c7_38 : AC := .seq c7_12 c7_37
abbrev c7_39 : AC := .seq c7_11 c7_38
abbrev c7_40 : AC := .seq c7_6 c7_39
abbrev c7_41 : AC := .seq c7_1 c7_40
abbrev c7 : AC := c7_41
theorem code7 : fnCode Try.prog 7 = some (c7, [6], 85) := by kernel_rfl
/- coinage/coinagelaw27.ConsecutiveOnes -/
abbrev c8_1 : AC := .reg [⟨(some 6), .mv (.k (.B false)), none⟩] false
abbrev c8_2 : AC := .reg [⟨(some 19), .call 9 [], none⟩,
  ⟨(some 20), .not (.t 19), none⟩,
  ⟨(some 21), .mv (.t 20), none⟩,
  ⟨(some 22), .mv (.t 0), (some (21, false))⟩,
  ⟨(some 23), .mv (.t 1), (some (21, false))⟩,
  ⟨(some 24), .call 10 [(.t 22), (.t 23)], (some (21, false))⟩,
  ⟨(some 25), .not (.t 24), (some (21, false))⟩,
  ⟨(some 26), .pick (.t 21) (.k (.B true)) (.t 25), none⟩,
  ⟨(some 27), .mv (.t 26), none⟩,
  ⟨(some 28), .mv (.t 2), (some (27, false))⟩,
  ⟨(some 29), .len (.t 28), (some (27, false))⟩,
  ⟨(some 30), .bin .gtr (.t 29) (.k (.I 30)), (some (27, false))⟩,
  ⟨(some 31), .pick (.t 27) (.k (.B true)) (.t 30), none⟩] false
abbrev c8_3 : AC := .reg [⟨(some 32), .call 9 [], none⟩,
  ⟨(some 6), .mv (.t 32), none⟩] false
abbrev c8_4 : AC := .seq c8_3 .ret
abbrev c8_5 : AC := .cond (.t 31) c8_4 .skip
abbrev c8_6 : AC := .seq c8_2 c8_5
abbrev c8_7 : AC := .reg [⟨(some 34), .mv (.t 0), none⟩,
  ⟨(some 35), .mv (.t 1), none⟩,
  ⟨(some 36), .mv (.t 2), none⟩,
  ⟨(some 37), .call 19 [(.t 34), (.t 35), (.t 36)], none⟩,
  ⟨(some 33), .mv (.t 37), none⟩,
  ⟨(some 38), .ext (.t 33) 0, none⟩,
  ⟨(some 39), .ext (.t 33) 1, none⟩,
  ⟨(some 7), .mv (.t 38), none⟩,
  ⟨(some 8), .mv (.t 39), none⟩] false
abbrev c8_8 : AC := .reg [⟨(some 40), .mv (.t 8), none⟩,
  ⟨(some 41), .bin .eql (.t 40) (.k (.I 0)), none⟩] false
abbrev c8_9 : AC := .reg [⟨(some 42), .mv (.t 7), none⟩,
  ⟨(some 43), .len (.t 42), none⟩,
  ⟨(some 44), .mv (.t 1), none⟩,
  ⟨(some 45), .len (.t 44), none⟩,
  ⟨(some 46), .bin .neq (.t 43) (.t 45), none⟩] false
abbrev c8_10 : AC := .reg [⟨(some 6), .mv (.k (.B false)), none⟩] false
abbrev c8_11 : AC := .seq c8_10 .ret
abbrev c8_12 : AC := .cond (.t 46) c8_11 .skip
abbrev c8_13 : AC := .seq c8_9 c8_12
abbrev c8_14 : AC := .reg [⟨(some 9), .mv (.k (.B true)), none⟩,
  ⟨(some 10), .mv (.k (.I 0)), none⟩] false
abbrev c8_15 : AC := .reg [⟨(some 11), .mv (.k (.I 0)), none⟩] false
abbrev c8_16 : AC := .reg [⟨(some 47), .mv (.t 11), none⟩,
  ⟨(some 48), .mv (.t 1), none⟩,
  ⟨(some 49), .len (.t 48), none⟩,
  ⟨(some 50), .bin .lss (.t 47) (.t 49), none⟩] false
abbrev c8_17 : AC := .cond (.t 50) .skip (.exit 0)
abbrev c8_18 : AC := .seq c8_16 c8_17
abbrev c8_19 : AC := .regD [(⟨(some 53), .mv (.t 7), none⟩, [7]),
  (⟨(some 54), .mv (.t 11), none⟩, [11]),
  (⟨(some 55), .iad 1 (.t 53) (.t 54), none⟩, [53, 54]),
  (⟨(some 56), .ld none (.t 55), none⟩, [55]),
  (⟨(some 57), .bin .lss (.t 56) (.k (.I 0)), none⟩, [56]),
  (⟨(some 58), .mv (.t 57), none⟩, [57]),
  (⟨(some 59), .mv (.t 7), (some (58, false))⟩, [7, 58]),
  (⟨(some 60), .mv (.t 11), (some (58, false))⟩, [11, 58]),
  (⟨(some 61), .iad 1 (.t 59) (.t 60), (some (58, false))⟩, [59, 60, 58]),
  (⟨(some 62), .ld none (.t 61), (some (58, false))⟩, [61, 58]),
  (⟨(some 63), .mv (.t 1), (some (58, false))⟩, [1, 58]),
  (⟨(some 64), .mv (.t 11), (some (58, false))⟩, [11, 58]),
  (⟨(some 65), .iad 1 (.t 63) (.t 64), (some (58, false))⟩, [63, 64, 58]),
  (⟨(some 66), .ld none (.t 65), (some (58, false))⟩, [65, 58]),
  (⟨(some 67), .len (.t 66), (some (58, false))⟩, [66, 58]),
  (⟨(some 68), .bin .gtr (.t 62) (.t 67), (some (58, false))⟩, [62, 67, 58]),
  (⟨(some 69), .pick (.t 58) (.k (.B true)) (.t 68), none⟩, [58, 68]),
  (⟨(some 70), .mv (.t 69), none⟩, [69]),
  (⟨(some 71), .mv (.t 7), (some (70, false))⟩, [7, 70]),
  (⟨(some 72), .mv (.t 11), (some (70, false))⟩, [11, 70]),
  (⟨(some 73), .iad 1 (.t 71) (.t 72), (some (70, false))⟩, [71, 72, 70]),
  (⟨(some 74), .ld none (.t 73), (some (70, false))⟩, [73, 70]),
  (⟨(some 75), .bin .eql (.t 74) (.k (.I 0)), (some (70, false))⟩, [74, 70]),
  (⟨(some 76), .mv (.t 1), (some (70, false))⟩, [1, 70]),
  (⟨(some 77), .mv (.t 11), (some (70, false))⟩, [11, 70]),
  (⟨(some 78), .iad 1 (.t 76) (.t 77), (some (70, false))⟩, [76, 77, 70]),
  (⟨(some 79), .ld none (.t 78), (some (70, false))⟩, [78, 70]),
  (⟨(some 80), .len (.t 79), (some (70, false))⟩, [79, 70]),
  (⟨(some 81), .bin .eql (.t 80) (.k (.I 0)), (some (70, false))⟩, [80, 70]),
  (⟨(some 82), .beq true (.t 75) (.t 81), (some (70, false))⟩, [75, 81, 70]),
  (⟨(some 83), .pick (.t 70) (.k (.B true)) (.t 82), none⟩, [70, 82])]
abbrev c8_20 : AC := .reg [⟨(some 6), .mv (.k (.B false)), none⟩] false
abbrev c8_21 : AC := .seq c8_20 .ret
abbrev c8_22 : AC := .cond (.t 83) c8_21 .skip
abbrev c8_23 : AC := .seq c8_19 c8_22
abbrev c8_24 : AC := .reg [⟨(some 84), .mv (.t 9), none⟩,
  ⟨(some 85), .mv (.t 84), none⟩,
  ⟨(some 86), .mv (.t 7), (some (85, true))⟩,
  ⟨(some 87), .mv (.t 11), (some (85, true))⟩,
  ⟨(some 88), .iad 1 (.t 86) (.t 87), (some (85, true))⟩,
  ⟨(some 89), .ld none (.t 88), (some (85, true))⟩,
  ⟨(some 90), .bin .leq (.t 89) (.k (.I 1)), (some (85, true))⟩,
  ⟨(some 91), .pick (.t 85) (.t 90) (.k (.B false)), none⟩,
  ⟨(some 9), .mv (.t 91), none⟩] false
abbrev c8_25 : AC := .reg [⟨(some 92), .mv (.t 10), none⟩,
  ⟨(some 93), .mv (.t 7), none⟩,
  ⟨(some 94), .mv (.t 11), none⟩,
  ⟨(some 95), .iad 1 (.t 93) (.t 94), none⟩,
  ⟨(some 96), .ld none (.t 95), none⟩,
  ⟨(some 97), .bin .sub (.t 96) (.k (.I 1)), none⟩,
  ⟨(some 98), .minmax true (.t 97) (.k (.I 0)), none⟩,
  ⟨(some 99), .bin .add (.t 92) (.t 98), none⟩,
  ⟨(some 10), .mv (.t 99), none⟩] false
abbrev c8_26 : AC := .seq c8_24 c8_25
abbrev c8_27 : AC := .seq c8_23 c8_26
abbrev c8_28 : AC := .block 1 c8_27
abbrev c8_29 : AC := .reg [⟨(some 51), .mv (.t 11), none⟩,
  ⟨(some 52), .bin .add (.t 51) (.k (.I 1)), none⟩,
  ⟨(some 11), .mv (.t 52), none⟩] false
abbrev c8_30 : AC := .seq c8_28 c8_29
abbrev c8_31 : AC := .seq c8_18 c8_30
abbrev c8_32 : AC := .loop c8_31
abbrev c8_33 : AC := .block 0 c8_32
abbrev c8_34 : AC := .seq c8_15 c8_33
abbrev c8_35 : AC := .reg [⟨(some 101), .mv (.t 0), none⟩,
  ⟨(some 102), .mv (.t 1), none⟩,
  ⟨(some 103), .mv (.t 2), none⟩,
  ⟨(some 104), .call 20 [(.t 101), (.t 102), (.t 103)], none⟩,
  ⟨(some 100), .mv (.t 104), none⟩,
  ⟨(some 105), .ext (.t 100) 0, none⟩,
  ⟨(some 106), .ext (.t 100) 1, none⟩,
  ⟨(some 12), .mv (.t 105), none⟩,
  ⟨(some 13), .mv (.t 106), none⟩] false
abbrev c8_36 : AC := .reg [⟨(some 107), .mv (.t 13), none⟩,
  ⟨(some 108), .bin .neq (.t 107) (.k (.I 0)), none⟩,
  ⟨(some 109), .mv (.t 108), none⟩,
  ⟨(some 110), .mv (.t 12), (some (109, false))⟩,
  ⟨(some 111), .mv (.t 10), (some (109, false))⟩,
  ⟨(some 112), .bin .neq (.t 110) (.t 111), (some (109, false))⟩,
  ⟨(some 113), .pick (.t 109) (.k (.B true)) (.t 112), none⟩,
  ⟨(some 114), .mv (.t 113), none⟩,
  ⟨(some 115), .mv (.t 0), (some (114, false))⟩,
  ⟨(some 116), .mv (.t 1), (some (114, false))⟩,
  ⟨(some 117), .mv (.t 2), (some (114, false))⟩,
  ⟨(some 118), .call 25 [(.t 115), (.t 116), (.t 117)], (some (114, false))⟩,
  ⟨(some 119), .mv (.t 9), (some (114, false))⟩,
  ⟨(some 120), .beq true (.t 118) (.t 119), (some (114, false))⟩,
  ⟨(some 121), .pick (.t 114) (.k (.B true)) (.t 120), none⟩] false
abbrev c8_37 : AC := .reg [⟨(some 6), .mv (.k (.B false)), none⟩] false
abbrev c8_38 : AC := .seq c8_37 .ret
abbrev c8_39 : AC := .cond (.t 121) c8_38 .skip
abbrev c8_40 : AC := .seq c8_36 c8_39
abbrev c8_41 : AC := .seq c8_35 c8_40
abbrev c8_42 : AC := .seq c8_34 c8_41
abbrev c8_43 : AC := .seq c8_14 c8_42
abbrev c8_44 : AC := .seq c8_13 c8_43
abbrev c8_45 : AC := .cond (.t 41) c8_44 .skip
abbrev c8_46 : AC := .seq c8_8 c8_45
abbrev c8_47 : AC := .reg [⟨(some 123), .mv (.t 0), none⟩,
  ⟨(some 124), .mv (.t 1), none⟩,
  ⟨(some 125), .call 13 [(.t 123), (.t 124)], none⟩,
  ⟨(some 122), .mv (.t 125), none⟩,
  ⟨(some 126), .ext (.t 122) 0, none⟩,
  ⟨(some 127), .ext (.t 122) 1, none⟩,
  ⟨(some 14), .mv (.t 126), none⟩,
  ⟨(some 15), .mv (.t 127), none⟩] false
abbrev c8_48 : AC := .reg [⟨(some 129), .mv (.t 0), none⟩,
  ⟨(some 130), .mv (.t 1), none⟩,
  ⟨(some 131), .call 11 [(.t 129), (.t 130)], none⟩,
  ⟨(some 128), .mv (.t 131), none⟩,
  ⟨(some 132), .ext (.t 128) 0, none⟩,
  ⟨(some 133), .ext (.t 128) 1, none⟩,
  ⟨(some 16), .mv (.t 132), none⟩,
  ⟨(some 17), .mv (.t 133), none⟩] false
abbrev c8_49 : AC := .reg [⟨(some 134), .mv (.t 0), none⟩,
  ⟨(some 135), .mv (.t 1), none⟩,
  ⟨(some 136), .call 17 [(.t 134), (.t 135)], none⟩,
  ⟨(some 18), .mv (.t 136), none⟩] false
abbrev c8_50 : AC := .reg [⟨(some 137), .mv (.t 18), none⟩,
  ⟨(some 138), .mv (.t 15), none⟩,
  ⟨(some 139), .bin .eql (.t 138) (.k (.I 0)), none⟩,
  ⟨(some 140), .beq false (.t 137) (.t 139), none⟩,
  ⟨(some 141), .mv (.t 140), none⟩,
  ⟨(some 142), .mv (.t 18), (some (141, true))⟩,
  ⟨(some 143), .mv (.t 17), (some (141, true))⟩,
  ⟨(some 144), .bin .eql (.t 143) (.k (.I 0)), (some (141, true))⟩,
  ⟨(some 145), .mv (.t 144), (some (141, true))⟩,
  ⟨(some 146), .mv (.t 16), (some (145, true))⟩,
  ⟨(some 147), .bin .gtr (.t 146) (.k (.I 0)), (some (145, true))⟩,
  ⟨(some 148), .pick (.t 145) (.t 147) (.k (.B false)), (some (141, true))⟩,
  ⟨(some 149), .beq false (.t 142) (.t 148), (some (141, true))⟩,
  ⟨(some 150), .pick (.t 141) (.t 149) (.k (.B false)), none⟩,
  ⟨(some 151), .mv (.t 150), none⟩,
  ⟨(some 152), .mv (.t 18), (some (151, true))⟩,
  ⟨(some 153), .not (.t 152), (some (151, true))⟩,
  ⟨(some 154), .mv (.t 153), (some (151, true))⟩,
  ⟨(some 155), .mv (.t 0), (some (154, false))⟩,
  ⟨(some 156), .mv (.t 1), (some (154, false))⟩,
  ⟨(some 157), .mv (.t 14), (some (154, false))⟩,
  ⟨(some 158), .call 25 [(.t 155), (.t 156), (.t 157)], (some (154, false))⟩,
  ⟨(some 159), .pick (.t 154) (.k (.B true)) (.t 158), (some (151, true))⟩,
  ⟨(some 160), .pick (.t 151) (.t 159) (.k (.B false)), none⟩,
  ⟨(some 6), .mv (.t 160), none⟩] false
abbrev c8_51 : AC := .seq c8_50 .ret
abbrev c8_52 : AC := .seq c8_49 c8_51
abbrev c8_53 : AC := .seq c8_48 c8_52
abbrev c8_54 : AC := .seq c8_47 c8_53
abbrev c8_55 : AC := .seq c8_46 c8_54
abbrev c8_56 : AC := .seq c8_7 c8_55
abbrev c8_57 : AC := .seq c8_6 c8_56
abbrev c8_58 : AC := .seq c8_1 c8_57
abbrev c8 : AC := c8_58
theorem code8 : fnCode Try.prog 8 = some (c8, [6], 161) := by kernel_rfl
/- coinage/coinagelaw27.awake -/
abbrev c9_1 : AC := .reg [⟨(some 0), .mv (.k (.B false)), none⟩] false
abbrev c9_2 : AC := .reg [⟨(some 8), .bslice 3 1 [(.k (.I 0)), (.k (.I 2))], none⟩,
  ⟨(some 9), .bslice 3 1 [(.k (.I 2)), (.k (.I 3))], none⟩,
  ⟨(some 10), .bslice 3 1 [(.k (.I 1))], none⟩,
  ⟨(some 11), .bslice 28 1 [(.t 8), (.t 9), (.t 10)], none⟩,
  ⟨(some 1), .mv (.t 11), none⟩] false
abbrev c9_3 : AC := .reg [⟨(some 13), .mv (.t 1), none⟩,
  ⟨(some 14), .call 13 [(.k (.I 4)), (.t 13)], none⟩,
  ⟨(some 12), .mv (.t 14), none⟩,
  ⟨(some 15), .ext (.t 12) 0, none⟩,
  ⟨(some 16), .ext (.t 12) 1, none⟩,
  ⟨(some 2), .mv (.t 15), none⟩,
  ⟨(some 3), .mv (.t 16), none⟩] false
abbrev c9_4 : AC := .reg [⟨(some 18), .mv (.t 1), none⟩,
  ⟨(some 19), .call 11 [(.k (.I 4)), (.t 18)], none⟩,
  ⟨(some 17), .mv (.t 19), none⟩,
  ⟨(some 20), .ext (.t 17) 0, none⟩,
  ⟨(some 21), .ext (.t 17) 1, none⟩,
  ⟨(some 4), .mv (.t 20), none⟩,
  ⟨(some 5), .mv (.t 21), none⟩] false
abbrev c9_5 : AC := .reg [⟨(some 23), .mv (.t 1), none⟩,
  ⟨(some 24), .bslice 3 1 [(.k (.I 0)), (.k (.I 1)), (.k (.I 2)), (.k (.I 3))], none⟩,
  ⟨(some 25), .call 19 [(.k (.I 4)), (.t 23), (.t 24)], none⟩,
  ⟨(some 22), .mv (.t 25), none⟩,
  ⟨(some 26), .ext (.t 22) 0, none⟩,
  ⟨(some 27), .ext (.t 22) 1, none⟩,
  ⟨(some 6), .mv (.t 26), none⟩,
  ⟨(some 7), .mv (.t 27), none⟩] false
abbrev c9_6 : AC := .reg [⟨(some 28), .mv (.t 3), none⟩,
  ⟨(some 29), .bin .eql (.t 28) (.k (.I 0)), none⟩,
  ⟨(some 30), .mv (.t 29), none⟩,
  ⟨(some 31), .mv (.t 2), (some (30, true))⟩,
  ⟨(some 32), .bslice 3 1 [(.k (.I 0)), (.k (.I 2)), (.k (.I 3)), (.k (.I 1))], (some (30, true))⟩,
  ⟨(some 33), .call 16 [(.t 31), (.t 32)], (some (30, true))⟩,
  ⟨(some 34), .pick (.t 30) (.t 33) (.k (.B false)), none⟩,
  ⟨(some 35), .mv (.t 34), none⟩,
  ⟨(some 36), .mv (.t 5), (some (35, true))⟩,
  ⟨(some 37), .bin .eql (.t 36) (.k (.I 0)), (some (35, true))⟩,
  ⟨(some 38), .pick (.t 35) (.t 37) (.k (.B false)), none⟩,
  ⟨(some 39), .mv (.t 38), none⟩,
  ⟨(some 40), .mv (.t 4), (some (39, true))⟩,
  ⟨(some 41), .bin .eql (.t 40) (.k (.I 4)), (some (39, true))⟩,
  ⟨(some 42), .pick (.t 39) (.t 41) (.k (.B false)), none⟩,
  ⟨(some 43), .mv (.t 42), none⟩,
  ⟨(some 44), .mv (.t 7), (some (43, true))⟩,
  ⟨(some 45), .bin .eql (.t 44) (.k (.I 0)), (some (43, true))⟩,
  ⟨(some 46), .pick (.t 43) (.t 45) (.k (.B false)), none⟩,
  ⟨(some 47), .mv (.t 46), none⟩,
  ⟨(some 48), .mv (.t 6), (some (47, true))⟩,
  ⟨(some 49), .bslice 3 1 [(.k (.I 2)), (.k (.I 1)), (.k (.I 1))], (some (47, true))⟩,
  ⟨(some 50), .call 16 [(.t 48), (.t 49)], (some (47, true))⟩,
  ⟨(some 51), .pick (.t 47) (.t 50) (.k (.B false)), none⟩,
  ⟨(some 0), .mv (.t 51), none⟩] false
abbrev c9_7 : AC := .seq c9_6 .ret
abbrev c9_8 : AC := .seq c9_5 c9_7
abbrev c9_9 : AC := .seq c9_4 c9_8
abbrev c9_10 : AC := .seq c9_3 c9_9
abbrev c9_11 : AC := .seq c9_2 c9_10
abbrev c9_12 : AC := .seq c9_1 c9_11
abbrev c9 : AC := c9_12
theorem code9 : fnCode Try.prog 9 = some (c9, [0], 52) := by kernel_rfl
/- coinage/consecutive.Count -/
abbrev c11_1 : AC := .reg [⟨(some 4), .mv (.k (.I 0)), none⟩,
  ⟨(some 5), .mv (.k (.I 0)), none⟩] false
abbrev c11_2 : AC := .reg [⟨(some 7), .mv (.t 0), none⟩,
  ⟨(some 8), .mv (.t 1), none⟩,
  ⟨(some 9), .call 23 [(.t 7), (.t 8)], none⟩,
  ⟨(some 10), .not (.t 9), none⟩] false
abbrev c11_3 : AC := .reg [⟨(some 4), .mv (.k (.I 0)), none⟩,
  ⟨(some 5), .mv (.k (.I 1)), none⟩] false
abbrev c11_4 : AC := .seq c11_3 .ret
abbrev c11_5 : AC := .cond (.t 10) c11_4 .skip
abbrev c11_6 : AC := .seq c11_2 c11_5
abbrev c11_7 : AC := .reg [⟨(some 6), .alloc 3 [(.I 0)], none⟩,
  ⟨none, .st none (.t 6) (.k (.I 0)), none⟩] false
abbrev c11_8 : AC := .reg [⟨(some 11), .mv (.t 0), none⟩,
  ⟨(some 12), .mv (.t 1), none⟩,
  ⟨(some 13), .mkfn 30 [(.t 6)], none⟩,
  ⟨(some 14), .call 29 [(.t 11), (.t 12), (.t 13)], none⟩] false
abbrev c11_9 : AC := .reg [⟨(some 15), .ld none (.t 6), none⟩,
  ⟨(some 4), .mv (.t 15), none⟩,
  ⟨(some 5), .mv (.k (.I 0)), none⟩] false
abbrev c11_10 : AC := .seq c11_9 .ret
abbrev c11_11 : AC := .seq c11_8 c11_10
abbrev c11_12 : AC := .seq c11_7 c11_11
abbrev c11_13 : AC := .seq c11_6 c11_12
abbrev c11_14 : AC := .seq c11_1 c11_13
abbrev c11 : AC := c11_14
theorem code11 : fnCode Try.prog 11 = some (c11, [4, 5], 16) := by kernel_rfl
/- coinage/coinagelaw27.clone -/
abbrev c12_1 : AC := .reg [⟨(some 2), .mv (.k (.c .nil)), none⟩] false
abbrev c12_2 : AC := .reg [⟨(some 3), .mv (.k (.c .nil)), none⟩] false
abbrev c12_3 : AC := .reg [⟨(some 4), .mv (.k (.I 0)), none⟩] false
abbrev c12_4 : AC := .reg [⟨(some 5), .mv (.t 4), none⟩,
  ⟨(some 6), .mv (.t 0), none⟩,
  ⟨(some 7), .len (.t 6), none⟩,
  ⟨(some 8), .bin .lss (.t 5) (.t 7), none⟩] false
abbrev c12_5 : AC := .cond (.t 8) .skip (.exit 0)
abbrev c12_6 : AC := .seq c12_4 c12_5
abbrev c12_7 : AC := .reg [⟨(some 11), .mv (.t 3), none⟩,
  ⟨(some 12), .bslice 3 1 [], none⟩,
  ⟨(some 13), .mv (.t 0), none⟩,
  ⟨(some 14), .mv (.t 4), none⟩,
  ⟨(some 15), .iad 1 (.t 13) (.t 14), none⟩,
  ⟨(some 16), .ld none (.t 15), none⟩,
  ⟨(some 17), .app 3 1 8 (.t 12) (.t 16), none⟩,
  ⟨(some 18), .bslice 28 1 [(.t 17)], none⟩,
  ⟨(some 19), .app 28 1 24 (.t 11) (.t 18), none⟩,
  ⟨(some 3), .mv (.t 19), none⟩] false
abbrev c12_8 : AC := .block 1 c12_7
abbrev c12_9 : AC := .reg [⟨(some 9), .mv (.t 4), none⟩,
  ⟨(some 10), .bin .add (.t 9) (.k (.I 1)), none⟩,
  ⟨(some 4), .mv (.t 10), none⟩] false
abbrev c12_10 : AC := .seq c12_8 c12_9
abbrev c12_11 : AC := .seq c12_6 c12_10
abbrev c12_12 : AC := .loop c12_11
abbrev c12_13 : AC := .block 0 c12_12
abbrev c12_14 : AC := .seq c12_3 c12_13
abbrev c12_15 : AC := .reg [⟨(some 20), .mv (.t 3), none⟩,
  ⟨(some 2), .mv (.t 20), none⟩] false
abbrev c12_16 : AC := .seq c12_15 .ret
abbrev c12_17 : AC := .seq c12_14 c12_16
abbrev c12_18 : AC := .seq c12_2 c12_17
abbrev c12_19 : AC := .seq c12_1 c12_18
abbrev c12 : AC := c12_19
theorem code12 : fnCode Try.prog 12 = some (c12, [2], 21) := by kernel_rfl
/- coinage/coinageref27.First -/
abbrev c14_1 : AC := .reg [⟨(some 4), .mv (.k (.c .nil)), none⟩,
  ⟨(some 5), .mv (.k (.I 0)), none⟩] false
abbrev c14_2 : AC := .reg [⟨(some 7), .mv (.t 0), none⟩,
  ⟨(some 8), .mv (.t 1), none⟩,
  ⟨(some 9), .call 24 [(.t 7), (.t 8)], none⟩,
  ⟨(some 10), .not (.t 9), none⟩] false
abbrev c14_3 : AC := .reg [⟨(some 4), .mv (.k (.c .nil)), none⟩,
  ⟨(some 5), .mv (.k (.I 1)), none⟩] false
abbrev c14_4 : AC := .seq c14_3 .ret
abbrev c14_5 : AC := .cond (.t 10) c14_4 .skip
abbrev c14_6 : AC := .seq c14_2 c14_5
abbrev c14_7 : AC := .reg [⟨(some 11), .mv (.t 0), none⟩,
  ⟨(some 12), .mv (.t 1), none⟩,
  ⟨(some 13), .call 32 [(.t 11), (.t 12)], none⟩,
  ⟨(some 6), .mv (.t 13), none⟩] false
abbrev c14_8 : AC := .reg [⟨(some 14), .mv (.t 6), none⟩,
  ⟨(some 15), .len (.t 14), none⟩,
  ⟨(some 16), .bin .eql (.t 15) (.k (.I 0)), none⟩] false
abbrev c14_9 : AC := .reg [⟨(some 4), .mv (.k (.c .nil)), none⟩,
  ⟨(some 5), .mv (.k (.I 7)), none⟩] false
abbrev c14_10 : AC := .seq c14_9 .ret
abbrev c14_11 : AC := .cond (.t 16) c14_10 .skip
abbrev c14_12 : AC := .seq c14_8 c14_11
abbrev c14_13 : AC := .reg [⟨(some 17), .mv (.t 6), none⟩,
  ⟨(some 18), .iad 1 (.t 17) (.k (.I 0)), none⟩,
  ⟨(some 19), .ld none (.t 18), none⟩,
  ⟨(some 4), .mv (.t 19), none⟩,
  ⟨(some 5), .mv (.k (.I 0)), none⟩] false
abbrev c14_14 : AC := .seq c14_13 .ret
abbrev c14_15 : AC := .seq c14_12 c14_14
abbrev c14_16 : AC := .seq c14_7 c14_15
abbrev c14_17 : AC := .seq c14_6 c14_16
abbrev c14_18 : AC := .seq c14_1 c14_17
abbrev c14 : AC := c14_18
theorem code14 : fnCode Try.prog 14 = some (c14, [4, 5], 20) := by kernel_rfl
/- coinage/coinageref27.Count -/
abbrev c15_1 : AC := .reg [⟨(some 4), .mv (.k (.I 0)), none⟩,
  ⟨(some 5), .mv (.k (.I 0)), none⟩] false
abbrev c15_2 : AC := .reg [⟨(some 6), .mv (.t 0), none⟩,
  ⟨(some 7), .mv (.t 1), none⟩,
  ⟨(some 8), .call 24 [(.t 6), (.t 7)], none⟩,
  ⟨(some 9), .not (.t 8), none⟩] false
abbrev c15_3 : AC := .reg [⟨(some 4), .mv (.k (.I 0)), none⟩,
  ⟨(some 5), .mv (.k (.I 1)), none⟩] false
abbrev c15_4 : AC := .seq c15_3 .ret
abbrev c15_5 : AC := .cond (.t 9) c15_4 .skip
abbrev c15_6 : AC := .seq c15_2 c15_5
abbrev c15_7 : AC := .reg [⟨(some 10), .mv (.t 0), none⟩,
  ⟨(some 11), .mv (.t 1), none⟩,
  ⟨(some 12), .call 32 [(.t 10), (.t 11)], none⟩,
  ⟨(some 13), .len (.t 12), none⟩,
  ⟨(some 4), .mv (.t 13), none⟩,
  ⟨(some 5), .mv (.k (.I 0)), none⟩] false
abbrev c15_8 : AC := .seq c15_7 .ret
abbrev c15_9 : AC := .seq c15_6 c15_8
abbrev c15_10 : AC := .seq c15_1 c15_9
abbrev c15 : AC := c15_10
theorem code15 : fnCode Try.prog 15 = some (c15, [4, 5], 14) := by kernel_rfl
/- coinage/consecutive.Runs -/
abbrev c19_1 : AC := .reg [⟨(some 6), .mv (.k (.c .nil)), none⟩,
  ⟨(some 7), .mv (.k (.I 0)), none⟩] false
abbrev c19_2 : AC := .reg [⟨(some 12), .mv (.t 0), none⟩,
  ⟨(some 13), .mv (.t 1), none⟩,
  ⟨(some 14), .mv (.t 2), none⟩,
  ⟨(some 15), .call 33 [(.t 12), (.t 13), (.t 14)], none⟩,
  ⟨(some 8), .mv (.t 15), none⟩] false
abbrev c19_3 : AC := .reg [⟨(some 16), .mv (.t 8), none⟩,
  ⟨(some 17), .bin .neq (.t 16) (.k (.I 0)), none⟩] false
abbrev c19_4 : AC := .reg [⟨(some 18), .mv (.t 8), none⟩,
  ⟨(some 6), .mv (.k (.c .nil)), none⟩,
  ⟨(some 7), .mv (.t 18), none⟩] false
abbrev c19_5 : AC := .seq c19_4 .ret
abbrev c19_6 : AC := .cond (.t 17) c19_5 .skip
abbrev c19_7 : AC := .seq c19_3 c19_6
abbrev c19_8 : AC := .seq c19_2 c19_7
abbrev c19_9 : AC := .reg [⟨(some 9), .mv (.k (.c .nil)), none⟩] false
abbrev c19_10 : AC := .reg [⟨(some 19), .mv (.t 1), none⟩,
  ⟨(some 20), .len (.t 19), none⟩,
  ⟨(some 21), .mv (.k (.I 0)), none⟩] false
abbrev c19_11 : AC := .reg [⟨(some 22), .bin .lss (.t 21) (.t 20), none⟩] false
abbrev c19_12 : AC := .cond (.t 22) .skip (.exit 0)
abbrev c19_13 : AC := .reg [⟨(some 23), .iad 1 (.t 19) (.t 21), none⟩,
  ⟨(some 24), .ld none (.t 23), none⟩,
  ⟨(some 11), .mv (.t 24), none⟩] false
abbrev c19_14 : AC := .reg [⟨(some 25), .mv (.t 9), none⟩,
  ⟨(some 26), .mv (.t 11), none⟩,
  ⟨(some 27), .mv (.t 2), none⟩,
  ⟨(some 28), .call 34 [(.t 26), (.t 27)], none⟩,
  ⟨(some 29), .bslice 3 1 [(.t 28)], none⟩,
  ⟨(some 30), .app 3 1 8 (.t 25) (.t 29), none⟩,
  ⟨(some 9), .mv (.t 30), none⟩] false
abbrev c19_15 : AC := .seq c19_13 c19_14
abbrev c19_16 : AC := .block 1 c19_15
abbrev c19_17 : AC := .reg [⟨(some 31), .bin .add (.t 21) (.k (.I 1)), none⟩,
  ⟨(some 21), .mv (.t 31), none⟩] false
abbrev c19_18 : AC := .seq c19_16 c19_17
abbrev c19_19 : AC := .seq c19_12 c19_18
abbrev c19_20 : AC := .seq c19_11 c19_19
abbrev c19_21 : AC := .loop c19_20
abbrev c19_22 : AC := .block 0 c19_21
abbrev c19_23 : AC := .seq c19_10 c19_22
abbrev c19_24 : AC := .reg [⟨(some 32), .mv (.t 9), none⟩,
  ⟨(some 6), .mv (.t 32), none⟩,
  ⟨(some 7), .mv (.k (.I 0)), none⟩] false
abbrev c19_25 : AC := .seq c19_24 .ret
abbrev c19_26 : AC := .seq c19_23 c19_25
abbrev c19_27 : AC := .seq c19_9 c19_26
abbrev c19_28 : AC := .seq c19_8 c19_27
abbrev c19_29 : AC := .seq c19_1 c19_28
abbrev c19 : AC := c19_29
theorem code19 : fnCode Try.prog 19 = some (c19, [6, 7], 33) := by kernel_rfl
/- coinage/consecutive.Gaps -/
abbrev c20_1 : AC := .reg [⟨(some 6), .mv (.k (.I 0)), none⟩,
  ⟨(some 7), .mv (.k (.I 0)), none⟩] false
abbrev c20_2 : AC := .reg [⟨(some 14), .mv (.t 0), none⟩,
  ⟨(some 15), .mv (.t 1), none⟩,
  ⟨(some 16), .mv (.t 2), none⟩,
  ⟨(some 17), .call 19 [(.t 14), (.t 15), (.t 16)], none⟩,
  ⟨(some 13), .mv (.t 17), none⟩,
  ⟨(some 18), .ext (.t 13) 0, none⟩,
  ⟨(some 19), .ext (.t 13) 1, none⟩,
  ⟨(some 8), .mv (.t 18), none⟩,
  ⟨(some 9), .mv (.t 19), none⟩] false
abbrev c20_3 : AC := .reg [⟨(some 10), .mv (.k (.I 0)), none⟩] false
abbrev c20_4 : AC := .reg [⟨(some 20), .mv (.t 8), none⟩,
  ⟨(some 21), .len (.t 20), none⟩,
  ⟨(some 22), .mv (.k (.I 0)), none⟩] false
abbrev c20_5 : AC := .reg [⟨(some 23), .bin .lss (.t 22) (.t 21), none⟩] false
abbrev c20_6 : AC := .cond (.t 23) .skip (.exit 0)
abbrev c20_7 : AC := .reg [⟨(some 24), .iad 1 (.t 20) (.t 22), none⟩,
  ⟨(some 25), .ld none (.t 24), none⟩,
  ⟨(some 12), .mv (.t 25), none⟩] false
abbrev c20_8 : AC := .reg [⟨(some 26), .mv (.t 10), none⟩,
  ⟨(some 27), .mv (.t 12), none⟩,
  ⟨(some 28), .bin .sub (.t 27) (.k (.I 1)), none⟩,
  ⟨(some 29), .minmax true (.t 28) (.k (.I 0)), none⟩,
  ⟨(some 30), .bin .add (.t 26) (.t 29), none⟩,
  ⟨(some 10), .mv (.t 30), none⟩] false
abbrev c20_9 : AC := .seq c20_7 c20_8
abbrev c20_10 : AC := .block 1 c20_9
abbrev c20_11 : AC := .reg [⟨(some 31), .bin .add (.t 22) (.k (.I 1)), none⟩,
  ⟨(some 22), .mv (.t 31), none⟩] false
abbrev c20_12 : AC := .seq c20_10 c20_11
abbrev c20_13 : AC := .seq c20_6 c20_12
abbrev c20_14 : AC := .seq c20_5 c20_13
abbrev c20_15 : AC := .loop c20_14
abbrev c20_16 : AC := .block 0 c20_15
abbrev c20_17 : AC := .seq c20_4 c20_16
abbrev c20_18 : AC := .reg [⟨(some 32), .mv (.t 10), none⟩,
  ⟨(some 33), .mv (.t 9), none⟩,
  ⟨(some 6), .mv (.t 32), none⟩,
  ⟨(some 7), .mv (.t 33), none⟩] false
abbrev c20_19 : AC := .seq c20_18 .ret
abbrev c20_20 : AC := .seq c20_17 c20_19
abbrev c20_21 : AC := .seq c20_3 c20_20
abbrev c20_22 : AC := .seq c20_2 c20_21
abbrev c20_23 : AC := .seq c20_1 c20_22
abbrev c20 : AC := c20_23
theorem code20 : fnCode Try.prog 20 = some (c20, [6, 7], 34) := by kernel_rfl
/- coinage/consecutive.Is -/
abbrev c25_1 : AC := .reg [⟨(some 6), .mv (.k (.B false)), none⟩] false
abbrev c25_2 : AC := .reg [⟨(some 10), .mv (.t 0), none⟩,
  ⟨(some 11), .mv (.t 1), none⟩,
  ⟨(some 12), .mv (.t 2), none⟩,
  ⟨(some 13), .call 20 [(.t 10), (.t 11), (.t 12)], none⟩,
  ⟨(some 9), .mv (.t 13), none⟩,
  ⟨(some 14), .ext (.t 9) 0, none⟩,
  ⟨(some 15), .ext (.t 9) 1, none⟩,
  ⟨(some 7), .mv (.t 14), none⟩,
  ⟨(some 8), .mv (.t 15), none⟩] false
abbrev c25_3 : AC := .reg [⟨(some 16), .mv (.t 8), none⟩,
  ⟨(some 17), .bin .eql (.t 16) (.k (.I 0)), none⟩,
  ⟨(some 18), .mv (.t 17), none⟩,
  ⟨(some 19), .mv (.t 7), (some (18, true))⟩,
  ⟨(some 20), .bin .eql (.t 19) (.k (.I 0)), (some (18, true))⟩,
  ⟨(some 21), .pick (.t 18) (.t 20) (.k (.B false)), none⟩,
  ⟨(some 6), .mv (.t 21), none⟩] false
abbrev c25_4 : AC := .seq c25_3 .ret
abbrev c25_5 : AC := .seq c25_2 c25_4
abbrev c25_6 : AC := .seq c25_1 c25_5
abbrev c25 : AC := c25_6
theorem code25 : fnCode Try.prog 25 = some (c25, [6], 22) := by kernel_rfl
/- coinage/consecutive.Count$1 -/
abbrev c30_1 : AC := .reg [⟨(some 3), .mv (.k (.B false)), none⟩] false
abbrev c30_2 : AC := .reg [⟨(some 4), .ld none (.t 1), none⟩,
  ⟨(some 5), .bin .add (.t 4) (.k (.I 1)), none⟩,
  ⟨none, .st none (.t 1) (.t 5), none⟩] false
abbrev c30_3 : AC := .reg [⟨(some 3), .mv (.k (.B true)), none⟩] false
abbrev c30_4 : AC := .seq c30_3 .ret
abbrev c30_5 : AC := .seq c30_2 c30_4
abbrev c30_6 : AC := .seq c30_1 c30_5
abbrev c30 : AC := c30_6
theorem code30 : fnCode Try.prog 30 = some (c30, [3], 6) := by kernel_rfl
/- coinage/consecutive.check -/
abbrev c33_1 : AC := .reg [⟨(some 6), .mv (.k (.I 0)), none⟩] false
abbrev c33_2 : AC := .reg [⟨(some 8), .mv (.t 0), none⟩,
  ⟨(some 9), .mv (.t 1), none⟩,
  ⟨(some 10), .call 23 [(.t 8), (.t 9)], none⟩,
  ⟨(some 11), .not (.t 10), none⟩,
  ⟨(some 7), .mv (.t 11), none⟩] false
abbrev c33_3 : AC := .reg [⟨(some 6), .mv (.k (.I 1)), none⟩] false
abbrev c33_4 : AC := .seq c33_3 .ret
abbrev c33_5 : AC := .reg [⟨(some 13), .mv (.t 0), none⟩,
  ⟨(some 14), .mv (.t 2), none⟩,
  ⟨(some 15), .call 40 [(.t 13), (.t 14)], none⟩,
  ⟨(some 16), .not (.t 15), none⟩,
  ⟨(some 12), .mv (.t 16), none⟩] false
abbrev c33_6 : AC := .reg [⟨(some 6), .mv (.k (.I 2)), none⟩] false
abbrev c33_7 : AC := .seq c33_6 .ret
abbrev c33_8 : AC := .cond (.t 12) c33_7 .skip
abbrev c33_9 : AC := .seq c33_5 c33_8
abbrev c33_10 : AC := .cond (.t 7) c33_4 c33_9
abbrev c33_11 : AC := .seq c33_2 c33_10
abbrev c33_12 : AC := .block 0 c33_11
abbrev c33_13 : AC := .reg [⟨(some 6), .mv (.k (.I 0)), none⟩] false
abbrev c33_14 : AC := .seq c33_13 .ret
abbrev c33_15 : AC := .seq c33_12 c33_14
abbrev c33_16 : AC := .seq c33_1 c33_15
abbrev c33 : AC := c33_16
theorem code33 : fnCode Try.prog 33 = some (c33, [6], 17) := by kernel_rfl
/- coinage/consecutive.runs -/
abbrev c34_1 : AC := .reg [⟨(some 4), .mv (.k (.I 0)), none⟩] false
abbrev c34_2 : AC := .reg [⟨(some 5), .mv (.k (.I 0)), none⟩,
  ⟨(some 6), .mv (.k (.B false)), none⟩] false
abbrev c34_3 : AC := .reg [⟨(some 10), .mv (.t 1), none⟩,
  ⟨(some 11), .len (.t 10), none⟩,
  ⟨(some 12), .mv (.k (.I 0)), none⟩] false
abbrev c34_4 : AC := .reg [⟨(some 13), .bin .lss (.t 12) (.t 11), none⟩] false
abbrev c34_5 : AC := .cond (.t 13) .skip (.exit 0)
abbrev c34_6 : AC := .reg [⟨(some 14), .iad 1 (.t 10) (.t 12), none⟩,
  ⟨(some 15), .ld none (.t 14), none⟩,
  ⟨(some 8), .mv (.t 15), none⟩] false
abbrev c34_7 : AC := .reg [⟨(some 16), .mv (.t 0), none⟩,
  ⟨(some 17), .mv (.t 8), none⟩,
  ⟨(some 18), .call 41 [(.t 16), (.t 17)], none⟩,
  ⟨(some 9), .mv (.t 18), none⟩] false
abbrev c34_8 : AC := .reg [⟨(some 19), .mv (.t 9), none⟩,
  ⟨(some 20), .mv (.t 19), none⟩,
  ⟨(some 21), .mv (.t 6), (some (20, true))⟩,
  ⟨(some 22), .not (.t 21), (some (20, true))⟩,
  ⟨(some 23), .pick (.t 20) (.t 22) (.k (.B false)), none⟩] false
abbrev c34_9 : AC := .reg [⟨(some 24), .mv (.t 5), none⟩,
  ⟨(some 25), .bin .add (.t 24) (.k (.I 1)), none⟩,
  ⟨(some 5), .mv (.t 25), none⟩] false
abbrev c34_10 : AC := .cond (.t 23) c34_9 .skip
abbrev c34_11 : AC := .seq c34_8 c34_10
abbrev c34_12 : AC := .reg [⟨(some 26), .mv (.t 9), none⟩,
  ⟨(some 6), .mv (.t 26), none⟩] false
abbrev c34_13 : AC := .seq c34_11 c34_12
abbrev c34_14 : AC := .seq c34_7 c34_13
abbrev c34_15 : AC := .seq c34_6 c34_14
abbrev c34_16 : AC := .block 1 c34_15
abbrev c34_17 : AC := .reg [⟨(some 27), .bin .add (.t 12) (.k (.I 1)), none⟩,
  ⟨(some 12), .mv (.t 27), none⟩] false
abbrev c34_18 : AC := .seq c34_16 c34_17
abbrev c34_19 : AC := .seq c34_5 c34_18
abbrev c34_20 : AC := .seq c34_4 c34_19
abbrev c34_21 : AC := .loop c34_20
abbrev c34_22 : AC := .block 0 c34_21
abbrev c34_23 : AC := .seq c34_3 c34_22
abbrev c34_24 : AC := .reg [⟨(some 28), .mv (.t 5), none⟩,
  ⟨(some 4), .mv (.t 28), none⟩] false
abbrev c34_25 : AC := .seq c34_24 .ret
abbrev c34_26 : AC := .seq c34_23 c34_25
abbrev c34_27 : AC := .seq c34_2 c34_26
abbrev c34_28 : AC := .seq c34_1 c34_27
abbrev c34 : AC := c34_28
theorem code34 : fnCode Try.prog 34 = some (c34, [4], 29) := by kernel_rfl
/- coinage/consecutive.isOrder -/
abbrev c40_1 : AC := .reg [⟨(some 4), .mv (.k (.B false)), none⟩] false
abbrev c40_2 : AC := .reg [⟨(some 8), .mv (.t 1), none⟩,
  ⟨(some 9), .call 45 [(.t 8)], none⟩,
  ⟨(some 10), .call 44 [(.t 9)], none⟩,
  ⟨(some 5), .mv (.t 10), none⟩] false
abbrev c40_3 : AC := .reg [⟨(some 11), .mv (.t 5), none⟩,
  ⟨(some 12), .len (.t 11), none⟩,
  ⟨(some 13), .mv (.k (.I 0)), none⟩] false
abbrev c40_4 : AC := .reg [⟨(some 14), .bin .lss (.t 13) (.t 12), none⟩] false
abbrev c40_5 : AC := .cond (.t 14) .skip (.exit 0)
abbrev c40_6 : AC := .reg [⟨(some 15), .mv (.t 13), none⟩,
  ⟨(some 16), .iad 1 (.t 11) (.t 13), none⟩,
  ⟨(some 17), .ld none (.t 16), none⟩,
  ⟨(some 6), .mv (.t 15), none⟩,
  ⟨(some 7), .mv (.t 17), none⟩] false
abbrev c40_7 : AC := .reg [⟨(some 18), .mv (.t 7), none⟩,
  ⟨(some 19), .mv (.t 6), none⟩,
  ⟨(some 20), .bin .neq (.t 18) (.t 19), none⟩] false
abbrev c40_8 : AC := .reg [⟨(some 4), .mv (.k (.B false)), none⟩] false
abbrev c40_9 : AC := .seq c40_8 .ret
abbrev c40_10 : AC := .cond (.t 20) c40_9 .skip
abbrev c40_11 : AC := .seq c40_7 c40_10
abbrev c40_12 : AC := .seq c40_6 c40_11
abbrev c40_13 : AC := .block 1 c40_12
abbrev c40_14 : AC := .reg [⟨(some 21), .bin .add (.t 13) (.k (.I 1)), none⟩,
  ⟨(some 13), .mv (.t 21), none⟩] false
abbrev c40_15 : AC := .seq c40_13 c40_14
abbrev c40_16 : AC := .seq c40_5 c40_15
abbrev c40_17 : AC := .seq c40_4 c40_16
abbrev c40_18 : AC := .loop c40_17
abbrev c40_19 : AC := .block 0 c40_18
abbrev c40_20 : AC := .seq c40_3 c40_19
abbrev c40_21 : AC := .reg [⟨(some 22), .mv (.t 1), none⟩,
  ⟨(some 23), .len (.t 22), none⟩,
  ⟨(some 24), .mv (.t 0), none⟩,
  ⟨(some 25), .bin .eql (.t 23) (.t 24), none⟩,
  ⟨(some 4), .mv (.t 25), none⟩] false
abbrev c40_22 : AC := .seq c40_21 .ret
abbrev c40_23 : AC := .seq c40_20 c40_22
abbrev c40_24 : AC := .seq c40_2 c40_23
abbrev c40_25 : AC := .seq c40_1 c40_24
abbrev c40 : AC := c40_25
theorem code40 : fnCode Try.prog 40 = some (c40, [4], 26) := by kernel_rfl


/-! ### orders -/
abbrev srt (o : List Int) : List Int := o.mergeSort fun x y => decide (x ≤ y)
theorem srt_perm (o : List Int) : (srt o).Perm o := List.mergeSort_perm o _
theorem srt_len (o : List Int) : (srt o).length = o.length := (srt_perm o).length_eq
theorem srt_pw {o : List Int} (h : o.Nodup) : (srt o).Pairwise (· < ·) := by
  have h1 : (srt o).Pairwise (fun x y => decide (x ≤ y) = true) := List.pairwise_mergeSort (by simp; omega) (by simp; omega) o
  have h2 : (srt o).Nodup := ((srt_perm o).nodup_iff).2 h
  refine (List.Pairwise.and h1 h2).imp fun h => ?_
  simp at h
  omega
theorem isOrd_srt (o : List Int) (n : Int) : isOrd o n = decide ((o.length : Int) = n ∧ ∀ i, i < (srt o).length → nth (srt o) i = i) := by
  unfold isOrd
  rw [Bool.eq_iff_iff, decide_eq_true_eq, decide_eq_true_eq]
  refine and_congr_right fun hn => ?_
  constructor
  · intro h
    have hp : Pre o.length o := ⟨?_, fun x hx => ?_⟩
    · obtain ⟨h1, h2⟩ := pre_iff.1 ⟨hp, rfl⟩
      have e : srt o = upto o.length := pw_ext (srt_pw h1) (upto_pw _) fun x => ((srt_perm o).mem_iff).trans (h2 x)
      intro i hi
      rw [e, upto_nth (by rw [srt_len] at hi; exact hi)]
    · rw [List.nodup_iff_pairwise_ne, List.pairwise_iff_getElem]
      intro i j hi hj hij e
      refine (h j hj).2.2 i hij ?_
      rw [nth_eq o i hi, nth_eq o j hj, e]
    · obtain ⟨i, hi, rfl⟩ := List.getElem_of_mem hx
      have := h i hi
      rw [nth_eq o i hi] at this
      omega
  · intro h
    have e : srt o = upto o.length := nth_ext (by rw [srt_len, upto_len]) fun i hi => by
      rw [h i hi, upto_nth (by rw [srt_len] at hi; exact hi)]
    have hp : o.Perm (upto o.length) := e ▸ (srt_perm o).symm
    have hnd : o.Nodup := hp.nodup_iff.2 (pw_nodup (upto_pw _))
    intro i hi
    have := mem_upto.1 (hp.mem_iff.1 (nth_mem o i hi))
    refine ⟨this.1, by omega, fun k hk e => ?_⟩
    have := nth_inj hnd hi (by omega) e
    omega
theorem w40 (n : Int) (o : List Int) (hl : o.length ≤ 1000000) : FnR Try.prog 40 [.I n, .c (Row o)] [.c (.B (isOrd o n))] := by
  have gV := fvValues o
  have gS := fSorted o hl
  have hsl := srt_len o
  have hB : isOrd o n = true ↔ ((o.length : Int) = n ∧ ∀ i, i < (srt o).length → nth (srt o) i = i) := by rw [isOrd_srt, decide_eq_true_eq]
  simp only [srt] at hsl hB
  generalize (o.mergeSort fun x y => decide (x ≤ y)) = s at gS hsl hB
  refine fn_walk code40 (by simp) ?_
  (repeat' (first | refine Sni.mk (fun hc => ?_) ?_ | refine AW_seq ?_ | refine AW_block ?_ | ((first | refine AW_reg ?_ | refine AW_cond ?_ | refine AW_skip ?_ | refine AW_exit ?_ | refine AW_ret ?_ | refine AW_regD (by kernel_rfl) ?_ | refine AW_regX (by kernel_rfl) ?_ | refine CallAt.fv _ _ _ (gV ..) (by rfl) ?_ | refine CallAtG.t (Eq.refl true) ?_ | refine CallAtG.f (Eq.refl false) ?_ | refine CallAt.mk _ (gS ..) (by first | (intro h; cases h; done) | (intro _; repeat' (first | exact List.forall_mem_nil _ | trivial | refine List.forall_mem_cons.2 ⟨?_, ?_⟩)) | (intro _; simp [RV.flatP, CD.flatP]; done)) ?_ | refine CallAtG.mk _ (fun _ => gS ..) ?_ | refine CallDS.mk _ (by simp [RV.data]) (fun _ => gS ..) (by first | (intro h; cases h; done) | (intro _; repeat' (first | exact List.forall_mem_nil _ | trivial | refine List.forall_mem_cons.2 ⟨?_, ?_⟩)) | (intro _; simp [RV.flatP, CD.flatP]; done)) ?_); try simp (disch := omega) only [go_sem, Nat.reduceLT, Nat.reduceAdd, Nat.reduceSub, Nat.reduceMul, Nat.reduceBEq, Nat.reduceEqDiff, Nat.reduceLeDiff, reduceCtorEq, ↓reduceIte, beq_dec, Int.reduceToNat, Int.reduceLT, Int.reduceLE, Int.reduceAdd, Int.reduceSub, Int.reduceMul, Int.reduceEq, Int.reduceNeg, Int.reduceNe, Int.toNat_natCast, IntKind.signed, IntKind.bits, Int.reducePow, Nat.reducePow]) | refine And.intro (fun hc => (?_ : AW _ _ _ _)) (fun hc => (?_ : AW _ _ _ _)) | simp (disch := omega) only [go_sem, Nat.reduceLT, Nat.reduceAdd, Nat.reduceSub, Nat.reduceMul, Nat.reduceBEq, Nat.reduceEqDiff, Nat.reduceLeDiff, reduceCtorEq, ↓reduceIte, beq_dec, Int.reduceToNat, Int.reduceLT, Int.reduceLE, Int.reduceAdd, Int.reduceSub, Int.reduceMul, Int.reduceEq, Int.reduceNeg, Int.reduceNe, Int.toNat_natCast, IntKind.signed, IntKind.bits, Int.reducePow, Nat.reducePow] | (refine And.intro ?_ ?_; focus (first | (intros; omega) | (intros; simp_all; done))) | refine And.intro (?_ : CallAt _ _ _ _ _ _ _ _) ?_ | fail))
  refine AW_loopK [0, 1, 11, 12] [4, 6, 7, 13, 14, 15, 16, 17, 18, 19, 20, 21] (fun i : Nat => i ≤ s.length ∧ ∀ j, j < i → nth s j = j) (fun i => [(13, .I i)]) (fun _ => []) (fun i => s.length - i) 0 ⟨by omega, by omega⟩ ?_ ?_
  · simp (disch := omega) only [go_sem, Nat.reduceLT, Nat.reduceAdd, Nat.reduceSub, Nat.reduceMul, Nat.reduceBEq, Nat.reduceEqDiff, Nat.reduceLeDiff, reduceCtorEq, ↓reduceIte, beq_dec, Int.reduceToNat, Int.reduceLT, Int.reduceLE, Int.reduceAdd, Int.reduceSub, Int.reduceMul, Int.reduceEq, Int.reduceNeg, Int.reduceNe, Int.toNat_natCast, IntKind.signed, IntKind.bits, Int.reducePow, Nat.reducePow, Int.natCast_zero]
  · rintro i ⟨hi, hb⟩
    (repeat' (first | refine Sni.mk (fun hc => ?_) ?_ | refine AW_seq ?_ | refine AW_block ?_ | ((first | refine AW_reg ?_ | refine AW_cond ?_ | refine AW_skip ?_ | refine AW_exit ?_ | refine AW_ret ?_ | refine AW_regD (by kernel_rfl) ?_ | refine AW_regX (by kernel_rfl) ?_ | refine CallAtG.t (Eq.refl true) ?_ | refine CallAtG.f (Eq.refl false) ?_); try simp (disch := omega) only [go_sem, Nat.reduceLT, Nat.reduceAdd, Nat.reduceSub, Nat.reduceMul, Nat.reduceBEq, Nat.reduceEqDiff, Nat.reduceLeDiff, reduceCtorEq, ↓reduceIte, beq_dec, Int.reduceToNat, Int.reduceLT, Int.reduceLE, Int.reduceAdd, Int.reduceSub, Int.reduceMul, Int.reduceEq, Int.reduceNeg, Int.reduceNe, Int.toNat_natCast, IntKind.signed, IntKind.bits, Int.reducePow, Nat.reducePow, getD_map (fun x : Int => [CD.I x])]) | refine And.intro (fun hc => (?_ : AW _ _ _ _)) (fun hc => (?_ : AW _ _ _ _)) | simp (disch := omega) only [go_sem, Nat.reduceLT, Nat.reduceAdd, Nat.reduceSub, Nat.reduceMul, Nat.reduceBEq, Nat.reduceEqDiff, Nat.reduceLeDiff, reduceCtorEq, ↓reduceIte, beq_dec, Int.reduceToNat, Int.reduceLT, Int.reduceLE, Int.reduceAdd, Int.reduceSub, Int.reduceMul, Int.reduceEq, Int.reduceNeg, Int.reduceNe, Int.toNat_natCast, IntKind.signed, IntKind.bits, Int.reducePow, Nat.reducePow, getD_map (fun x : Int => [CD.I x])] | (refine And.intro ?_ ?_; focus (first | (intros; omega) | (intros; simp_all; done))) | refine And.intro (?_ : CallAt _ _ _ _ _ _ _ _) ?_ | fail))
    · symm
      rw [← Bool.not_eq_true, hB]
      exact fun h => absurd (h.2 i (by omega)) (by omega)
    · refine .mk (i + 1) ⟨by omega, step_lt hb (by omega)⟩ (by omega) ?_
      simp (disch := omega) only [go_sem, Nat.reduceLT, Nat.reduceAdd, Nat.reduceSub, Nat.reduceMul, Nat.reduceBEq, Nat.reduceEqDiff, Nat.reduceLeDiff, reduceCtorEq, ↓reduceIte, beq_dec, Int.reduceToNat, Int.reduceLT, Int.reduceLE, Int.reduceAdd, Int.reduceSub, Int.reduceMul, Int.reduceEq, Int.reduceNeg, Int.reduceNe, Int.toNat_natCast, IntKind.signed, IntKind.bits, Int.reducePow, Nat.reducePow, Int.natCast_add, Int.natCast_one]
    · rw [Bool.eq_iff_iff, decide_eq_true_eq, hB]
      exact ⟨fun h => ⟨h, fun j hj => hb j (by omega)⟩, fun h => h.1⟩
/-! ### runs -/
def bef (row order : List Int) (i : Nat) : Bool := decide (0 < i ∧ nth order (i - 1) ∈ row)
theorem w34 (row order : List Int) : FnR Try.prog 34 [.c (Row row), .c (Row order)] [.c (.I (runsN row order order.length : Nat))] := by
  refine FnR_len (pre := [.c (Row row)]) (post := []) (fnCode_callB code34) fun hl => ?_
  simp only [List.length_map, maxLen] at hl
  refine fn_walk code34 (by simp) ?_
  (repeat' (first | refine Sni.mk (fun hc => ?_) ?_ | refine AW_seq ?_ | refine AW_block ?_ | ((first | refine AW_reg ?_ | refine AW_cond ?_ | refine AW_skip ?_ | refine AW_exit ?_ | refine AW_ret ?_ | refine AW_regD (by kernel_rfl) ?_ | refine AW_regX (by kernel_rfl) ?_ | refine CallAtG.t (Eq.refl true) ?_ | refine CallAtG.f (Eq.refl false) ?_); try simp (disch := omega) only [go_sem, Nat.reduceLT, Nat.reduceAdd, Nat.reduceSub, Nat.reduceMul, Nat.reduceBEq, Nat.reduceEqDiff, Nat.reduceLeDiff, reduceCtorEq, ↓reduceIte, beq_dec, Int.reduceToNat, Int.reduceLT, Int.reduceLE, Int.reduceAdd, Int.reduceSub, Int.reduceMul, Int.reduceEq, Int.reduceNeg, Int.reduceNe, Int.toNat_natCast, IntKind.signed, IntKind.bits, Int.reducePow, Nat.reducePow]) | refine And.intro (fun hc => (?_ : AW _ _ _ _)) (fun hc => (?_ : AW _ _ _ _)) | simp (disch := omega) only [go_sem, Nat.reduceLT, Nat.reduceAdd, Nat.reduceSub, Nat.reduceMul, Nat.reduceBEq, Nat.reduceEqDiff, Nat.reduceLeDiff, reduceCtorEq, ↓reduceIte, beq_dec, Int.reduceToNat, Int.reduceLT, Int.reduceLE, Int.reduceAdd, Int.reduceSub, Int.reduceMul, Int.reduceEq, Int.reduceNeg, Int.reduceNe, Int.toNat_natCast, IntKind.signed, IntKind.bits, Int.reducePow, Nat.reducePow] | (refine And.intro ?_ ?_; focus (first | (intros; omega) | (intros; simp_all; done))) | refine And.intro (?_ : CallAt _ _ _ _ _ _ _ _) ?_ | fail))
  refine AW_loopK [0, 10, 11] [5, 6, 8, 9, 12, 13, 14, 15, 16, 17, 18, 19, 20, 21, 22, 23, 24, 25, 26, 27] (fun i : Nat => i ≤ order.length) (fun i => [(12, .I i), (5, .I (runsN row order i : Nat)), (6, .B (bef row order i))]) (fun _ => []) (fun i => order.length - i) 0 (by omega) ?_ ?_
  · simp (disch := omega) only [go_sem, Nat.reduceLT, Nat.reduceAdd, Nat.reduceSub, Nat.reduceMul, Nat.reduceBEq, Nat.reduceEqDiff, Nat.reduceLeDiff, reduceCtorEq, ↓reduceIte, beq_dec, Int.reduceToNat, Int.reduceLT, Int.reduceLE, Int.reduceAdd, Int.reduceSub, Int.reduceMul, Int.reduceEq, Int.reduceNeg, Int.reduceNe, Int.toNat_natCast, IntKind.signed, IntKind.bits, Int.reducePow, Nat.reducePow, Int.natCast_zero, runsN]
    simp [bef]
  · rintro i hi
    have hrl := runsN_le row order i
    have hb1 : bef row order (i + 1) = decide (nth order i ∈ row) := by simp [bef]
    cases hbi : bef row order i with
    | true =>
      have hb := of_decide_eq_true hbi
      have e : runsN row order (i + 1) = runsN row order i := by
        simp only [runsN]
        rw [if_neg fun h => h.2.elim (fun h => by omega) (fun h => h hb.2)]
        rfl
      (repeat' (first | refine Sni.mk (fun hc => ?_) ?_ | refine AW_seq ?_ | refine AW_block ?_ | ((first | refine AW_reg ?_ | refine AW_cond ?_ | refine AW_skip ?_ | refine AW_exit ?_ | refine AW_ret ?_ | refine AW_regD (by kernel_rfl) ?_ | refine AW_regX (by kernel_rfl) ?_ | refine CallAtG.t (Eq.refl true) ?_ | refine CallAtG.f (Eq.refl false) ?_ | refine CallAt.mk _ (f116 ..) (by first | (intro h; cases h; done) | (intro _; repeat' (first | exact List.forall_mem_nil _ | trivial | refine List.forall_mem_cons.2 ⟨?_, ?_⟩)) | (intro _; simp [RV.flatP, CD.flatP, getD_map (fun x : Int => [CD.I x])]; done)) ?_ | refine CallAtG.mk _ (fun _ => f116 ..) ?_ | refine CallDS.mk _ (by simp [RV.data]) (fun _ => f116 ..) (by first | (intro h; cases h; done) | (intro _; repeat' (first | exact List.forall_mem_nil _ | trivial | refine List.forall_mem_cons.2 ⟨?_, ?_⟩)) | (intro _; simp [RV.flatP, CD.flatP, getD_map (fun x : Int => [CD.I x])]; done)) ?_); try simp (disch := omega) only [go_sem, Nat.reduceLT, Nat.reduceAdd, Nat.reduceSub, Nat.reduceMul, Nat.reduceBEq, Nat.reduceEqDiff, Nat.reduceLeDiff, reduceCtorEq, ↓reduceIte, beq_dec, Int.reduceToNat, Int.reduceLT, Int.reduceLE, Int.reduceAdd, Int.reduceSub, Int.reduceMul, Int.reduceEq, Int.reduceNeg, Int.reduceNe, Int.toNat_natCast, IntKind.signed, IntKind.bits, Int.reducePow, Nat.reducePow, getD_map (fun x : Int => [CD.I x])]) | refine And.intro (fun hc => (?_ : AW _ _ _ _)) (fun hc => (?_ : AW _ _ _ _)) | simp (disch := omega) only [go_sem, Nat.reduceLT, Nat.reduceAdd, Nat.reduceSub, Nat.reduceMul, Nat.reduceBEq, Nat.reduceEqDiff, Nat.reduceLeDiff, reduceCtorEq, ↓reduceIte, beq_dec, Int.reduceToNat, Int.reduceLT, Int.reduceLE, Int.reduceAdd, Int.reduceSub, Int.reduceMul, Int.reduceEq, Int.reduceNeg, Int.reduceNe, Int.toNat_natCast, IntKind.signed, IntKind.bits, Int.reducePow, Nat.reducePow, getD_map (fun x : Int => [CD.I x])] | (refine And.intro ?_ ?_; focus (first | (intros; omega) | (intros; simp_all; done))) | refine And.intro (?_ : CallAt _ _ _ _ _ _ _ _) ?_ | fail))
      · refine .mk (i + 1) (by omega) (by omega) ?_
        simp (disch := omega) only [go_sem, Nat.reduceLT, Nat.reduceAdd, Nat.reduceSub, Nat.reduceMul, Nat.reduceBEq, Nat.reduceEqDiff, Nat.reduceLeDiff, reduceCtorEq, ↓reduceIte, beq_dec, Int.reduceToNat, Int.reduceLT, Int.reduceLE, Int.reduceAdd, Int.reduceSub, Int.reduceMul, Int.reduceEq, Int.reduceNeg, Int.reduceNe, Int.toNat_natCast, IntKind.signed, IntKind.bits, Int.reducePow, Nat.reducePow, Int.natCast_add, Int.natCast_one, e, hb1]
      · rw [show order.length = i by omega]
    | false =>
      have hb := of_decide_eq_false hbi
      (repeat' (first | refine Sni.mk (fun hc => ?_) ?_ | refine AW_seq ?_ | refine AW_block ?_ | ((first | refine AW_reg ?_ | refine AW_cond ?_ | refine AW_skip ?_ | refine AW_exit ?_ | refine AW_ret ?_ | refine AW_regD (by kernel_rfl) ?_ | refine AW_regX (by kernel_rfl) ?_ | refine CallAtG.t (Eq.refl true) ?_ | refine CallAtG.f (Eq.refl false) ?_ | refine CallAt.mk _ (f116 ..) (by first | (intro h; cases h; done) | (intro _; repeat' (first | exact List.forall_mem_nil _ | trivial | refine List.forall_mem_cons.2 ⟨?_, ?_⟩)) | (intro _; simp [RV.flatP, CD.flatP, getD_map (fun x : Int => [CD.I x])]; done)) ?_ | refine CallAtG.mk _ (fun _ => f116 ..) ?_ | refine CallDS.mk _ (by simp [RV.data]) (fun _ => f116 ..) (by first | (intro h; cases h; done) | (intro _; repeat' (first | exact List.forall_mem_nil _ | trivial | refine List.forall_mem_cons.2 ⟨?_, ?_⟩)) | (intro _; simp [RV.flatP, CD.flatP, getD_map (fun x : Int => [CD.I x])]; done)) ?_); try simp (disch := omega) only [go_sem, Nat.reduceLT, Nat.reduceAdd, Nat.reduceSub, Nat.reduceMul, Nat.reduceBEq, Nat.reduceEqDiff, Nat.reduceLeDiff, reduceCtorEq, ↓reduceIte, beq_dec, Int.reduceToNat, Int.reduceLT, Int.reduceLE, Int.reduceAdd, Int.reduceSub, Int.reduceMul, Int.reduceEq, Int.reduceNeg, Int.reduceNe, Int.toNat_natCast, IntKind.signed, IntKind.bits, Int.reducePow, Nat.reducePow, getD_map (fun x : Int => [CD.I x])]) | refine And.intro (fun hc => (?_ : AW _ _ _ _)) (fun hc => (?_ : AW _ _ _ _)) | simp (disch := omega) only [go_sem, Nat.reduceLT, Nat.reduceAdd, Nat.reduceSub, Nat.reduceMul, Nat.reduceBEq, Nat.reduceEqDiff, Nat.reduceLeDiff, reduceCtorEq, ↓reduceIte, beq_dec, Int.reduceToNat, Int.reduceLT, Int.reduceLE, Int.reduceAdd, Int.reduceSub, Int.reduceMul, Int.reduceEq, Int.reduceNeg, Int.reduceNe, Int.toNat_natCast, IntKind.signed, IntKind.bits, Int.reducePow, Nat.reducePow, getD_map (fun x : Int => [CD.I x])] | (refine And.intro ?_ ?_; focus (first | (intros; omega) | (intros; simp_all; done))) | refine And.intro (?_ : CallAt _ _ _ _ _ _ _ _) ?_ | fail))
      · refine .mk (i + 1) (by omega) (by omega) ?_
        have e : runsN row order (i + 1) = runsN row order i + 1 := by
          simp only [runsN]
          rw [if_pos]
          refine ⟨by assumption, ?_⟩
          by_cases h0 : i = 0
          · exact .inl h0
          · exact .inr fun h => hb ⟨by omega, h⟩
        simp (disch := omega) only [go_sem, Nat.reduceLT, Nat.reduceAdd, Nat.reduceSub, Nat.reduceMul, Nat.reduceBEq, Nat.reduceEqDiff, Nat.reduceLeDiff, reduceCtorEq, ↓reduceIte, beq_dec, Int.reduceToNat, Int.reduceLT, Int.reduceLE, Int.reduceAdd, Int.reduceSub, Int.reduceMul, Int.reduceEq, Int.reduceNeg, Int.reduceNe, Int.toNat_natCast, IntKind.signed, IntKind.bits, Int.reducePow, Nat.reducePow, Int.natCast_add, Int.natCast_one, e, hb1]
      · refine .mk (i + 1) (by omega) (by omega) ?_
        have e : runsN row order (i + 1) = runsN row order i := by
          simp only [runsN]
          rw [if_neg fun h => absurd h.1 (by assumption)]
          rfl
        simp (disch := omega) only [go_sem, Nat.reduceLT, Nat.reduceAdd, Nat.reduceSub, Nat.reduceMul, Nat.reduceBEq, Nat.reduceEqDiff, Nat.reduceLeDiff, reduceCtorEq, ↓reduceIte, beq_dec, Int.reduceToNat, Int.reduceLT, Int.reduceLE, Int.reduceAdd, Int.reduceSub, Int.reduceMul, Int.reduceEq, Int.reduceNeg, Int.reduceNe, Int.toNat_natCast, IntKind.signed, IntKind.bits, Int.reducePow, Nat.reducePow, Int.natCast_add, Int.natCast_one, e, hb1]
      · rw [show order.length = i by omega]
theorem w33 (n : Int) (t : List (List Int)) (o : List Int) (hl : o.length ≤ 1000000) : FnR Try.prog 33 [.I n, .c (Tab t), .c (Row o)] [.c (.I (runErr n t o))] := by
  have g40 := w40 n o hl
  refine fn_walk code33 (by simp) ?_
  unfold runErr
  cases hv : validT n t with
  | false =>
    have g38 := f38 n t
    rw [hv] at g38
    (repeat' (first | refine Sni.mk (fun hc => ?_) ?_ | refine AW_seq ?_ | refine AW_block ?_ | ((first | refine AW_reg ?_ | refine AW_cond ?_ | refine AW_skip ?_ | refine AW_exit ?_ | refine AW_ret ?_ | refine AW_regD (by kernel_rfl) ?_ | refine AW_regX (by kernel_rfl) ?_ | refine CallAtG.t (Eq.refl true) ?_ | refine CallAtG.f (Eq.refl false) ?_ | refine CallAt.mk _ (g38 ..) (by first | (intro h; cases h; done) | (intro _; repeat' (first | exact List.forall_mem_nil _ | trivial | refine List.forall_mem_cons.2 ⟨?_, ?_⟩)) | (intro _; simp [RV.flatP, CD.flatP]; done)) ?_ | refine CallAtG.mk _ (fun _ => g38 ..) ?_ | refine CallDS.mk _ (by simp [RV.data]) (fun _ => g38 ..) (by first | (intro h; cases h; done) | (intro _; repeat' (first | exact List.forall_mem_nil _ | trivial | refine List.forall_mem_cons.2 ⟨?_, ?_⟩)) | (intro _; simp [RV.flatP, CD.flatP]; done)) ?_ | refine CallAt.mk _ (g40 ..) (by first | (intro h; cases h; done) | (intro _; repeat' (first | exact List.forall_mem_nil _ | trivial | refine List.forall_mem_cons.2 ⟨?_, ?_⟩)) | (intro _; simp [RV.flatP, CD.flatP]; done)) ?_ | refine CallAtG.mk _ (fun _ => g40 ..) ?_ | refine CallDS.mk _ (by simp [RV.data]) (fun _ => g40 ..) (by first | (intro h; cases h; done) | (intro _; repeat' (first | exact List.forall_mem_nil _ | trivial | refine List.forall_mem_cons.2 ⟨?_, ?_⟩)) | (intro _; simp [RV.flatP, CD.flatP]; done)) ?_); try simp (disch := omega) only [go_sem, Nat.reduceLT, Nat.reduceAdd, Nat.reduceSub, Nat.reduceMul, Nat.reduceBEq, Nat.reduceEqDiff, Nat.reduceLeDiff, reduceCtorEq, ↓reduceIte, beq_dec, Int.reduceToNat, Int.reduceLT, Int.reduceLE, Int.reduceAdd, Int.reduceSub, Int.reduceMul, Int.reduceEq, Int.reduceNeg, Int.reduceNe, Int.toNat_natCast, IntKind.signed, IntKind.bits, Int.reducePow, Nat.reducePow]) | refine And.intro (fun hc => (?_ : AW _ _ _ _)) (fun hc => (?_ : AW _ _ _ _)) | simp (disch := omega) only [go_sem, Nat.reduceLT, Nat.reduceAdd, Nat.reduceSub, Nat.reduceMul, Nat.reduceBEq, Nat.reduceEqDiff, Nat.reduceLeDiff, reduceCtorEq, ↓reduceIte, beq_dec, Int.reduceToNat, Int.reduceLT, Int.reduceLE, Int.reduceAdd, Int.reduceSub, Int.reduceMul, Int.reduceEq, Int.reduceNeg, Int.reduceNe, Int.toNat_natCast, IntKind.signed, IntKind.bits, Int.reducePow, Nat.reducePow] | (refine And.intro ?_ ?_; focus (first | (intros; omega) | (intros; simp_all; done))) | refine And.intro (?_ : CallAt _ _ _ _ _ _ _ _) ?_ | fail))
  | true =>
    have g38 := f38 n t
    rw [hv] at g38
    cases ho : isOrd o n with
    | false =>
      rw [ho] at g40
      (repeat' (first | refine Sni.mk (fun hc => ?_) ?_ | refine AW_seq ?_ | refine AW_block ?_ | ((first | refine AW_reg ?_ | refine AW_cond ?_ | refine AW_skip ?_ | refine AW_exit ?_ | refine AW_ret ?_ | refine AW_regD (by kernel_rfl) ?_ | refine AW_regX (by kernel_rfl) ?_ | refine CallAtG.t (Eq.refl true) ?_ | refine CallAtG.f (Eq.refl false) ?_ | refine CallAt.mk _ (g38 ..) (by first | (intro h; cases h; done) | (intro _; repeat' (first | exact List.forall_mem_nil _ | trivial | refine List.forall_mem_cons.2 ⟨?_, ?_⟩)) | (intro _; simp [RV.flatP, CD.flatP]; done)) ?_ | refine CallAtG.mk _ (fun _ => g38 ..) ?_ | refine CallDS.mk _ (by simp [RV.data]) (fun _ => g38 ..) (by first | (intro h; cases h; done) | (intro _; repeat' (first | exact List.forall_mem_nil _ | trivial | refine List.forall_mem_cons.2 ⟨?_, ?_⟩)) | (intro _; simp [RV.flatP, CD.flatP]; done)) ?_ | refine CallAt.mk _ (g40 ..) (by first | (intro h; cases h; done) | (intro _; repeat' (first | exact List.forall_mem_nil _ | trivial | refine List.forall_mem_cons.2 ⟨?_, ?_⟩)) | (intro _; simp [RV.flatP, CD.flatP]; done)) ?_ | refine CallAtG.mk _ (fun _ => g40 ..) ?_ | refine CallDS.mk _ (by simp [RV.data]) (fun _ => g40 ..) (by first | (intro h; cases h; done) | (intro _; repeat' (first | exact List.forall_mem_nil _ | trivial | refine List.forall_mem_cons.2 ⟨?_, ?_⟩)) | (intro _; simp [RV.flatP, CD.flatP]; done)) ?_); try simp (disch := omega) only [go_sem, Nat.reduceLT, Nat.reduceAdd, Nat.reduceSub, Nat.reduceMul, Nat.reduceBEq, Nat.reduceEqDiff, Nat.reduceLeDiff, reduceCtorEq, ↓reduceIte, beq_dec, Int.reduceToNat, Int.reduceLT, Int.reduceLE, Int.reduceAdd, Int.reduceSub, Int.reduceMul, Int.reduceEq, Int.reduceNeg, Int.reduceNe, Int.toNat_natCast, IntKind.signed, IntKind.bits, Int.reducePow, Nat.reducePow]) | refine And.intro (fun hc => (?_ : AW _ _ _ _)) (fun hc => (?_ : AW _ _ _ _)) | simp (disch := omega) only [go_sem, Nat.reduceLT, Nat.reduceAdd, Nat.reduceSub, Nat.reduceMul, Nat.reduceBEq, Nat.reduceEqDiff, Nat.reduceLeDiff, reduceCtorEq, ↓reduceIte, beq_dec, Int.reduceToNat, Int.reduceLT, Int.reduceLE, Int.reduceAdd, Int.reduceSub, Int.reduceMul, Int.reduceEq, Int.reduceNeg, Int.reduceNe, Int.toNat_natCast, IntKind.signed, IntKind.bits, Int.reducePow, Nat.reducePow] | (refine And.intro ?_ ?_; focus (first | (intros; omega) | (intros; simp_all; done))) | refine And.intro (?_ : CallAt _ _ _ _ _ _ _ _) ?_ | fail))
    | true =>
      rw [ho] at g40
      (repeat' (first | refine Sni.mk (fun hc => ?_) ?_ | refine AW_seq ?_ | refine AW_block ?_ | ((first | refine AW_reg ?_ | refine AW_cond ?_ | refine AW_skip ?_ | refine AW_exit ?_ | refine AW_ret ?_ | refine AW_regD (by kernel_rfl) ?_ | refine AW_regX (by kernel_rfl) ?_ | refine CallAtG.t (Eq.refl true) ?_ | refine CallAtG.f (Eq.refl false) ?_ | refine CallAt.mk _ (g38 ..) (by first | (intro h; cases h; done) | (intro _; repeat' (first | exact List.forall_mem_nil _ | trivial | refine List.forall_mem_cons.2 ⟨?_, ?_⟩)) | (intro _; simp [RV.flatP, CD.flatP]; done)) ?_ | refine CallAtG.mk _ (fun _ => g38 ..) ?_ | refine CallDS.mk _ (by simp [RV.data]) (fun _ => g38 ..) (by first | (intro h; cases h; done) | (intro _; repeat' (first | exact List.forall_mem_nil _ | trivial | refine List.forall_mem_cons.2 ⟨?_, ?_⟩)) | (intro _; simp [RV.flatP, CD.flatP]; done)) ?_ | refine CallAt.mk _ (g40 ..) (by first | (intro h; cases h; done) | (intro _; repeat' (first | exact List.forall_mem_nil _ | trivial | refine List.forall_mem_cons.2 ⟨?_, ?_⟩)) | (intro _; simp [RV.flatP, CD.flatP]; done)) ?_ | refine CallAtG.mk _ (fun _ => g40 ..) ?_ | refine CallDS.mk _ (by simp [RV.data]) (fun _ => g40 ..) (by first | (intro h; cases h; done) | (intro _; repeat' (first | exact List.forall_mem_nil _ | trivial | refine List.forall_mem_cons.2 ⟨?_, ?_⟩)) | (intro _; simp [RV.flatP, CD.flatP]; done)) ?_); try simp (disch := omega) only [go_sem, Nat.reduceLT, Nat.reduceAdd, Nat.reduceSub, Nat.reduceMul, Nat.reduceBEq, Nat.reduceEqDiff, Nat.reduceLeDiff, reduceCtorEq, ↓reduceIte, beq_dec, Int.reduceToNat, Int.reduceLT, Int.reduceLE, Int.reduceAdd, Int.reduceSub, Int.reduceMul, Int.reduceEq, Int.reduceNeg, Int.reduceNe, Int.toNat_natCast, IntKind.signed, IntKind.bits, Int.reducePow, Nat.reducePow]) | refine And.intro (fun hc => (?_ : AW _ _ _ _)) (fun hc => (?_ : AW _ _ _ _)) | simp (disch := omega) only [go_sem, Nat.reduceLT, Nat.reduceAdd, Nat.reduceSub, Nat.reduceMul, Nat.reduceBEq, Nat.reduceEqDiff, Nat.reduceLeDiff, reduceCtorEq, ↓reduceIte, beq_dec, Int.reduceToNat, Int.reduceLT, Int.reduceLE, Int.reduceAdd, Int.reduceSub, Int.reduceMul, Int.reduceEq, Int.reduceNeg, Int.reduceNe, Int.toNat_natCast, IntKind.signed, IntKind.bits, Int.reducePow, Nat.reducePow] | (refine And.intro ?_ ?_; focus (first | (intros; omega) | (intros; simp_all; done))) | refine And.intro (?_ : CallAt _ _ _ _ _ _ _ _) ?_ | fail))
theorem w19 (n : Int) (t : List (List Int)) (o : List Int) (hl : o.length ≤ 1000000) : FnR Try.prog 19 [.I n, .c (Tab t), .c (Row o)] [ORow (runsL n t o), .c (.I (runErr n t o))] := by
  have g33 := w33 n t o hl
  refine fn_walk code19 (by simp) ?_
  unfold runsL
  by_cases hr : runErr n t o = 0
  case neg =>
    simp only [if_neg hr]
    generalize runErr n t o = e at g33 hr
    (repeat' (first | refine Sni.mk (fun hc => ?_) ?_ | refine AW_seq ?_ | refine AW_block ?_ | ((first | refine AW_reg ?_ | refine AW_cond ?_ | refine AW_skip ?_ | refine AW_exit ?_ | refine AW_ret ?_ | refine AW_regD (by kernel_rfl) ?_ | refine AW_regX (by kernel_rfl) ?_ | refine CallAtG.t (Eq.refl true) ?_ | refine CallAtG.f (Eq.refl false) ?_ | refine CallAt.mk _ (g33 ..) (by first | (intro h; cases h; done) | (intro _; repeat' (first | exact List.forall_mem_nil _ | trivial | refine List.forall_mem_cons.2 ⟨?_, ?_⟩)) | (intro _; simp [RV.flatP, CD.flatP]; done)) ?_ | refine CallAtG.mk _ (fun _ => g33 ..) ?_ | refine CallDS.mk _ (by simp [RV.data]) (fun _ => g33 ..) (by first | (intro h; cases h; done) | (intro _; repeat' (first | exact List.forall_mem_nil _ | trivial | refine List.forall_mem_cons.2 ⟨?_, ?_⟩)) | (intro _; simp [RV.flatP, CD.flatP]; done)) ?_); try simp (disch := omega) only [go_sem, Nat.reduceLT, Nat.reduceAdd, Nat.reduceSub, Nat.reduceMul, Nat.reduceBEq, Nat.reduceEqDiff, Nat.reduceLeDiff, reduceCtorEq, ↓reduceIte, beq_dec, Int.reduceToNat, Int.reduceLT, Int.reduceLE, Int.reduceAdd, Int.reduceSub, Int.reduceMul, Int.reduceEq, Int.reduceNeg, Int.reduceNe, Int.toNat_natCast, IntKind.signed, IntKind.bits, Int.reducePow, Nat.reducePow]) | refine And.intro (fun hc => (?_ : AW _ _ _ _)) (fun hc => (?_ : AW _ _ _ _)) | simp (disch := omega) only [go_sem, Nat.reduceLT, Nat.reduceAdd, Nat.reduceSub, Nat.reduceMul, Nat.reduceBEq, Nat.reduceEqDiff, Nat.reduceLeDiff, reduceCtorEq, ↓reduceIte, beq_dec, Int.reduceToNat, Int.reduceLT, Int.reduceLE, Int.reduceAdd, Int.reduceSub, Int.reduceMul, Int.reduceEq, Int.reduceNeg, Int.reduceNe, Int.toNat_natCast, IntKind.signed, IntKind.bits, Int.reducePow, Nat.reducePow] | (refine And.intro ?_ ?_; focus (first | (intros; omega) | (intros; simp_all; done))) | refine And.intro (?_ : CallAt _ _ _ _ _ _ _ _) ?_ | fail))
    exact absurd (by assumption) hr
  case pos =>
    rw [hr] at g33
    simp only [hr, if_true]
    have ht : t.length ≤ 16 := by
      unfold runErr at hr
      split at hr
      · omega
      · rename_i hv
        exact (validT_of (by simpa using hv)).2.2.1
    (repeat' (first | refine Sni.mk (fun hc => ?_) ?_ | refine AW_seq ?_ | refine AW_block ?_ | ((first | refine AW_reg ?_ | refine AW_cond ?_ | refine AW_skip ?_ | refine AW_exit ?_ | refine AW_ret ?_ | refine AW_regD (by kernel_rfl) ?_ | refine AW_regX (by kernel_rfl) ?_ | refine CallAtG.t (Eq.refl true) ?_ | refine CallAtG.f (Eq.refl false) ?_ | refine CallAt.mk _ (g33 ..) (by first | (intro h; cases h; done) | (intro _; repeat' (first | exact List.forall_mem_nil _ | trivial | refine List.forall_mem_cons.2 ⟨?_, ?_⟩)) | (intro _; simp [RV.flatP, CD.flatP]; done)) ?_ | refine CallAtG.mk _ (fun _ => g33 ..) ?_ | refine CallDS.mk _ (by simp [RV.data]) (fun _ => g33 ..) (by first | (intro h; cases h; done) | (intro _; repeat' (first | exact List.forall_mem_nil _ | trivial | refine List.forall_mem_cons.2 ⟨?_, ?_⟩)) | (intro _; simp [RV.flatP, CD.flatP]; done)) ?_); try simp (disch := omega) only [go_sem, Nat.reduceLT, Nat.reduceAdd, Nat.reduceSub, Nat.reduceMul, Nat.reduceBEq, Nat.reduceEqDiff, Nat.reduceLeDiff, reduceCtorEq, ↓reduceIte, beq_dec, Int.reduceToNat, Int.reduceLT, Int.reduceLE, Int.reduceAdd, Int.reduceSub, Int.reduceMul, Int.reduceEq, Int.reduceNeg, Int.reduceNe, Int.toNat_natCast, IntKind.signed, IntKind.bits, Int.reducePow, Nat.reducePow]) | refine And.intro (fun hc => (?_ : AW _ _ _ _)) (fun hc => (?_ : AW _ _ _ _)) | simp (disch := omega) only [go_sem, Nat.reduceLT, Nat.reduceAdd, Nat.reduceSub, Nat.reduceMul, Nat.reduceBEq, Nat.reduceEqDiff, Nat.reduceLeDiff, reduceCtorEq, ↓reduceIte, beq_dec, Int.reduceToNat, Int.reduceLT, Int.reduceLE, Int.reduceAdd, Int.reduceSub, Int.reduceMul, Int.reduceEq, Int.reduceNeg, Int.reduceNe, Int.toNat_natCast, IntKind.signed, IntKind.bits, Int.reducePow, Nat.reducePow] | (refine And.intro ?_ ?_; focus (first | (intros; omega) | (intros; simp_all; done))) | refine And.intro (?_ : CallAt _ _ _ _ _ _ _ _) ?_ | fail))
    refine AW_nil 9 900 3 1 (by rfl) ?_
    refine AW_loopK [2, 19, 20] [9, 11, 21, 22, 23, 24, 25, 26, 27, 28, 29, 30, 31] (fun i : Nat => i ≤ t.length) (fun i => [(21, .I i), (9, .own 900)]) (fun i => [(900, .arr 3 1 (((t.take i).map fun r => ((runsN r o o.length : Nat) : Int)).map fun x => [CD.I x]))]) (fun i => t.length - i) 0 (by omega) ?_ ?_
    · simp (disch := omega) only [go_sem, Nat.reduceLT, Nat.reduceAdd, Nat.reduceSub, Nat.reduceMul, Nat.reduceBEq, Nat.reduceEqDiff, Nat.reduceLeDiff, reduceCtorEq, ↓reduceIte, beq_dec, Int.reduceToNat, Int.reduceLT, Int.reduceLE, Int.reduceAdd, Int.reduceSub, Int.reduceMul, Int.reduceEq, Int.reduceNeg, Int.reduceNe, Int.toNat_natCast, IntKind.signed, IntKind.bits, Int.reducePow, Nat.reducePow, Int.natCast_zero, List.take_zero, List.map_nil]
    · rintro i hi
      (repeat' (first | refine Sni.mk (fun hc => ?_) ?_ | refine AW_seq ?_ | refine AW_block ?_ | ((first | refine AW_reg ?_ | refine AW_cond ?_ | refine AW_skip ?_ | refine AW_exit ?_ | refine AW_ret ?_ | refine AW_regD (by kernel_rfl) ?_ | refine AW_regX (by kernel_rfl) ?_ | refine CallAtG.t (Eq.refl true) ?_ | refine CallAtG.f (Eq.refl false) ?_ | refine CallAt.mk _ (w34 ..) (by first | (intro h; cases h; done) | (intro _; repeat' (first | exact List.forall_mem_nil _ | trivial | refine List.forall_mem_cons.2 ⟨?_, ?_⟩)) | (intro _; simp [RV.flatP, CD.flatP, maxLen, getD_map (fun r : List Int => [Row r]), List.length_take]; done)) ?_ | refine CallAtG.mk _ (fun _ => w34 ..) ?_ | refine CallDS.mk _ (by simp [RV.data]) (fun _ => w34 ..) (by first | (intro h; cases h; done) | (intro _; repeat' (first | exact List.forall_mem_nil _ | trivial | refine List.forall_mem_cons.2 ⟨?_, ?_⟩)) | (intro _; simp [RV.flatP, CD.flatP, maxLen, getD_map (fun r : List Int => [Row r]), List.length_take]; done)) ?_); try simp (disch := omega) only [go_sem, Nat.reduceLT, Nat.reduceAdd, Nat.reduceSub, Nat.reduceMul, Nat.reduceBEq, Nat.reduceEqDiff, Nat.reduceLeDiff, reduceCtorEq, ↓reduceIte, beq_dec, Int.reduceToNat, Int.reduceLT, Int.reduceLE, Int.reduceAdd, Int.reduceSub, Int.reduceMul, Int.reduceEq, Int.reduceNeg, Int.reduceNe, Int.toNat_natCast, IntKind.signed, IntKind.bits, Int.reducePow, Nat.reducePow, maxLen, getD_map (fun r : List Int => [Row r]), List.length_take]) | refine And.intro (fun hc => (?_ : AW _ _ _ _)) (fun hc => (?_ : AW _ _ _ _)) | simp (disch := omega) only [go_sem, Nat.reduceLT, Nat.reduceAdd, Nat.reduceSub, Nat.reduceMul, Nat.reduceBEq, Nat.reduceEqDiff, Nat.reduceLeDiff, reduceCtorEq, ↓reduceIte, beq_dec, Int.reduceToNat, Int.reduceLT, Int.reduceLE, Int.reduceAdd, Int.reduceSub, Int.reduceMul, Int.reduceEq, Int.reduceNeg, Int.reduceNe, Int.toNat_natCast, IntKind.signed, IntKind.bits, Int.reducePow, Nat.reducePow, maxLen, getD_map (fun r : List Int => [Row r]), List.length_take] | (refine And.intro ?_ ?_; focus (first | (intros; omega) | (intros; simp_all; done))) | refine And.intro (?_ : CallAt _ _ _ _ _ _ _ _) ?_ | fail))
      · refine .mk (i + 1) (by omega) (by omega) ?_
        have e : t.take (i + 1) = t.take i ++ [nth t i] := by rw [List.take_succ_eq_append_getElem (by omega), nth_eq t i (by omega)]
        simp (disch := omega) only [go_sem, Nat.reduceLT, Nat.reduceAdd, Nat.reduceSub, Nat.reduceMul, Nat.reduceBEq, Nat.reduceEqDiff, Nat.reduceLeDiff, reduceCtorEq, ↓reduceIte, beq_dec, Int.reduceToNat, Int.reduceLT, Int.reduceLE, Int.reduceAdd, Int.reduceSub, Int.reduceMul, Int.reduceEq, Int.reduceNeg, Int.reduceNe, Int.toNat_natCast, IntKind.signed, IntKind.bits, Int.reducePow, Nat.reducePow, Int.natCast_add, Int.natCast_one, e, List.map_append]
      · rw [show i = t.length by omega, List.take_length]
theorem w20 (n : Int) (t : List (List Int)) (o : List Int) (hl : o.length ≤ 1000000) : FnR Try.prog 20 [.I n, .c (Tab t), .c (Row o)] [.c (.I (gapsV n t o)), .c (.I (runErr n t o))] := by
  have g19 := w19 n t o hl
  refine fn_walk code20 (by simp) ?_
  obtain ⟨q1, q2⟩ := runsL_len n t o
  have hg := gapN_le (l := runsL n t o) (fun x hx => by have := q2 x hx; omega)
  unfold gapsV
  (repeat' (first | refine Sni.mk (fun hc => ?_) ?_ | refine AW_seq ?_ | refine AW_block ?_ | ((first | refine AW_reg ?_ | refine AW_cond ?_ | refine AW_skip ?_ | refine AW_exit ?_ | refine AW_ret ?_ | refine AW_regD (by kernel_rfl) ?_ | refine AW_regX (by kernel_rfl) ?_ | refine CallAtG.t (Eq.refl true) ?_ | refine CallAtG.f (Eq.refl false) ?_ | refine CallAt.mk _ (g19 ..) (by first | (intro h; cases h; done) | (intro _; repeat' (first | exact List.forall_mem_nil _ | trivial | refine List.forall_mem_cons.2 ⟨?_, ?_⟩)) | (intro _; simp [RV.flatP, CD.flatP]; done)) ?_ | refine CallAtG.mk _ (fun _ => g19 ..) ?_ | refine CallDS.mk _ (by simp [RV.data]) (fun _ => g19 ..) (by first | (intro h; cases h; done) | (intro _; repeat' (first | exact List.forall_mem_nil _ | trivial | refine List.forall_mem_cons.2 ⟨?_, ?_⟩)) | (intro _; simp [RV.flatP, CD.flatP]; done)) ?_); try simp (disch := omega) only [go_sem, Nat.reduceLT, Nat.reduceAdd, Nat.reduceSub, Nat.reduceMul, Nat.reduceBEq, Nat.reduceEqDiff, Nat.reduceLeDiff, reduceCtorEq, ↓reduceIte, beq_dec, Int.reduceToNat, Int.reduceLT, Int.reduceLE, Int.reduceAdd, Int.reduceSub, Int.reduceMul, Int.reduceEq, Int.reduceNeg, Int.reduceNe, Int.toNat_natCast, IntKind.signed, IntKind.bits, Int.reducePow, Nat.reducePow]) | refine And.intro (fun hc => (?_ : AW _ _ _ _)) (fun hc => (?_ : AW _ _ _ _)) | simp (disch := omega) only [go_sem, Nat.reduceLT, Nat.reduceAdd, Nat.reduceSub, Nat.reduceMul, Nat.reduceBEq, Nat.reduceEqDiff, Nat.reduceLeDiff, reduceCtorEq, ↓reduceIte, beq_dec, Int.reduceToNat, Int.reduceLT, Int.reduceLE, Int.reduceAdd, Int.reduceSub, Int.reduceMul, Int.reduceEq, Int.reduceNeg, Int.reduceNe, Int.toNat_natCast, IntKind.signed, IntKind.bits, Int.reducePow, Nat.reducePow] | (refine And.intro ?_ ?_; focus (first | (intros; omega) | (intros; simp_all; done))) | refine And.intro (?_ : CallAt _ _ _ _ _ _ _ _) ?_ | fail))
  refine AW_loopK [9, 20, 21] [10, 12, 22, 23, 24, 25, 26, 27, 28, 29, 30, 31] (fun i : Nat => i ≤ (runsL n t o).length) (fun i => [(22, .I i), (10, .I (gapN (runsL n t o) i))]) (fun _ => []) (fun i => (runsL n t o).length - i) 0 (by omega) ?_ ?_
  · simp (disch := omega) only [go_sem, Nat.reduceLT, Nat.reduceAdd, Nat.reduceSub, Nat.reduceMul, Nat.reduceBEq, Nat.reduceEqDiff, Nat.reduceLeDiff, reduceCtorEq, ↓reduceIte, beq_dec, Int.reduceToNat, Int.reduceLT, Int.reduceLE, Int.reduceAdd, Int.reduceSub, Int.reduceMul, Int.reduceEq, Int.reduceNeg, Int.reduceNe, Int.toNat_natCast, IntKind.signed, IntKind.bits, Int.reducePow, Nat.reducePow, Int.natCast_zero, gapN]
  · rintro i hi
    have hgi := hg i hi
    have hq : i < (runsL n t o).length → 0 ≤ nth (runsL n t o) i ∧ nth (runsL n t o) i ≤ 7 := fun h => q2 _ (nth_mem _ i h)
    (repeat' (first | refine Sni.mk (fun hc => ?_) ?_ | refine AW_seq ?_ | refine AW_block ?_ | ((first | refine AW_reg ?_ | refine AW_cond ?_ | refine AW_skip ?_ | refine AW_exit ?_ | refine AW_ret ?_ | refine AW_regD (by kernel_rfl) ?_ | refine AW_regX (by kernel_rfl) ?_ | refine CallAtG.t (Eq.refl true) ?_ | refine CallAtG.f (Eq.refl false) ?_); try simp (disch := omega) only [go_sem, Nat.reduceLT, Nat.reduceAdd, Nat.reduceSub, Nat.reduceMul, Nat.reduceBEq, Nat.reduceEqDiff, Nat.reduceLeDiff, reduceCtorEq, ↓reduceIte, beq_dec, Int.reduceToNat, Int.reduceLT, Int.reduceLE, Int.reduceAdd, Int.reduceSub, Int.reduceMul, Int.reduceEq, Int.reduceNeg, Int.reduceNe, Int.toNat_natCast, IntKind.signed, IntKind.bits, Int.reducePow, Nat.reducePow, getD_map (fun x : Int => [CD.I x])]) | refine And.intro (fun hc => (?_ : AW _ _ _ _)) (fun hc => (?_ : AW _ _ _ _)) | simp (disch := omega) only [go_sem, Nat.reduceLT, Nat.reduceAdd, Nat.reduceSub, Nat.reduceMul, Nat.reduceBEq, Nat.reduceEqDiff, Nat.reduceLeDiff, reduceCtorEq, ↓reduceIte, beq_dec, Int.reduceToNat, Int.reduceLT, Int.reduceLE, Int.reduceAdd, Int.reduceSub, Int.reduceMul, Int.reduceEq, Int.reduceNeg, Int.reduceNe, Int.toNat_natCast, IntKind.signed, IntKind.bits, Int.reducePow, Nat.reducePow, getD_map (fun x : Int => [CD.I x])] | (refine And.intro ?_ ?_; focus (first | (intros; omega) | (intros; simp_all; done))) | refine And.intro (?_ : CallAt _ _ _ _ _ _ _ _) ?_ | fail))
    · refine .mk (i + 1) (by omega) (by omega) ?_
      simp (disch := omega) only [go_sem, Nat.reduceLT, Nat.reduceAdd, Nat.reduceSub, Nat.reduceMul, Nat.reduceBEq, Nat.reduceEqDiff, Nat.reduceLeDiff, reduceCtorEq, ↓reduceIte, beq_dec, Int.reduceToNat, Int.reduceLT, Int.reduceLE, Int.reduceAdd, Int.reduceSub, Int.reduceMul, Int.reduceEq, Int.reduceNeg, Int.reduceNe, Int.toNat_natCast, IntKind.signed, IntKind.bits, Int.reducePow, Nat.reducePow, Int.natCast_add, Int.natCast_one, gapN]
    · rw [show i = (runsL n t o).length by omega]
theorem w25 (n : Int) (t : List (List Int)) (o : List Int) (hl : o.length ≤ 1000000) : FnR Try.prog 25 [.I n, .c (Tab t), .c (Row o)] [.c (.B (gapless n t o))] := by
  have g20 := w20 n t o hl
  refine fn_walk code25 (by simp) ?_
  (repeat' (first | refine Sni.mk (fun hc => ?_) ?_ | refine AW_seq ?_ | refine AW_block ?_ | ((first | refine AW_reg ?_ | refine AW_cond ?_ | refine AW_skip ?_ | refine AW_exit ?_ | refine AW_ret ?_ | refine AW_regD (by kernel_rfl) ?_ | refine AW_regX (by kernel_rfl) ?_ | refine CallAtG.t (Eq.refl true) ?_ | refine CallAtG.f (Eq.refl false) ?_ | refine CallAt.mk _ (g20 ..) (by first | (intro h; cases h; done) | (intro _; repeat' (first | exact List.forall_mem_nil _ | trivial | refine List.forall_mem_cons.2 ⟨?_, ?_⟩)) | (intro _; simp [RV.flatP, CD.flatP]; done)) ?_ | refine CallAtG.mk _ (fun _ => g20 ..) ?_ | refine CallDS.mk _ (by simp [RV.data]) (fun _ => g20 ..) (by first | (intro h; cases h; done) | (intro _; repeat' (first | exact List.forall_mem_nil _ | trivial | refine List.forall_mem_cons.2 ⟨?_, ?_⟩)) | (intro _; simp [RV.flatP, CD.flatP]; done)) ?_); try simp (disch := omega) only [go_sem, Nat.reduceLT, Nat.reduceAdd, Nat.reduceSub, Nat.reduceMul, Nat.reduceBEq, Nat.reduceEqDiff, Nat.reduceLeDiff, reduceCtorEq, ↓reduceIte, beq_dec, Int.reduceToNat, Int.reduceLT, Int.reduceLE, Int.reduceAdd, Int.reduceSub, Int.reduceMul, Int.reduceEq, Int.reduceNeg, Int.reduceNe, Int.toNat_natCast, IntKind.signed, IntKind.bits, Int.reducePow, Nat.reducePow]) | refine And.intro (fun hc => (?_ : AW _ _ _ _)) (fun hc => (?_ : AW _ _ _ _)) | simp (disch := omega) only [go_sem, Nat.reduceLT, Nat.reduceAdd, Nat.reduceSub, Nat.reduceMul, Nat.reduceBEq, Nat.reduceEqDiff, Nat.reduceLeDiff, reduceCtorEq, ↓reduceIte, beq_dec, Int.reduceToNat, Int.reduceLT, Int.reduceLE, Int.reduceAdd, Int.reduceSub, Int.reduceMul, Int.reduceEq, Int.reduceNeg, Int.reduceNe, Int.toNat_natCast, IntKind.signed, IntKind.bits, Int.reducePow, Nat.reducePow] | (refine And.intro ?_ ?_; focus (first | (intros; omega) | (intros; simp_all; done))) | refine And.intro (?_ : CallAt _ _ _ _ _ _ _ _) ?_ | fail))
  rfl
end Go.Proofs.Ytebmhidhimgfiaa

-- P p_27.txt
open Go Go.AL Go.RowKit
namespace Go.Proofs.Ytebmhidhimgfiaa
set_option maxRecDepth 20000

/-! ### the visitor that counts -/
theorem w30 (d : CD) (c : Int) (h : 0 ≤ c ∧ c ≤ 1000000000) : FnW Try.prog 30 [.c d, .ptr 1000006 0] [(1000006, .box 3 [.I c])] [.c (.B true)] [(1000006, .box 3 [.I (c + 1)])] [1000006] := by
  refine fn_walkW code30 (by simp) (by rfl) ?_
  (repeat' (first | refine Sni.mk (fun hc => ?_) ?_ | refine AW_seq ?_ | refine AW_block ?_ | ((first | refine AW_reg ?_ | refine AW_cond ?_ | refine AW_skip ?_ | refine AW_exit ?_ | refine AW_ret ?_ | refine AW_regD (by kernel_rfl) ?_ | refine AW_regX (by kernel_rfl) ?_ | refine CallAtG.t (Eq.refl true) ?_ | refine CallAtG.f (Eq.refl false) ?_); try simp (disch := omega) only [go_sem, Nat.reduceLT, Nat.reduceAdd, Nat.reduceSub, Nat.reduceMul, Nat.reduceBEq, Nat.reduceEqDiff, Nat.reduceLeDiff, reduceCtorEq, ↓reduceIte, beq_dec, Int.reduceToNat, Int.reduceLT, Int.reduceLE, Int.reduceAdd, Int.reduceSub, Int.reduceMul, Int.reduceEq, Int.reduceNeg, Int.reduceNe, Int.toNat_natCast, IntKind.signed, IntKind.bits, Int.reducePow, Nat.reducePow]) | refine And.intro (fun hc => (?_ : AW _ _ _ _)) (fun hc => (?_ : AW _ _ _ _)) | simp (disch := omega) only [go_sem, Nat.reduceLT, Nat.reduceAdd, Nat.reduceSub, Nat.reduceMul, Nat.reduceBEq, Nat.reduceEqDiff, Nat.reduceLeDiff, reduceCtorEq, ↓reduceIte, beq_dec, Int.reduceToNat, Int.reduceLT, Int.reduceLE, Int.reduceAdd, Int.reduceSub, Int.reduceMul, Int.reduceEq, Int.reduceNeg, Int.reduceNe, Int.toNat_natCast, IntKind.signed, IntKind.bits, Int.reducePow, Nat.reducePow] | (refine And.intro ?_ ?_; focus (first | (intros; omega) | (intros; simp_all; done))) | refine And.intro (?_ : CallAt _ _ _ _ _ _ _ _) ?_ | fail))
abbrev vC : AV := .fn 30 [.ptr 1000006 0]
theorem fm_len {f : Nat → List (List Int)} {p : Nat} (h : ∀ c, (f c).length ≤ p) : ∀ l : List Nat, (l.flatMap f).length ≤ l.length * p
  | [] => by simp
  | o :: l => by
    have h1 := fm_len h l
    have h2 := h o
    simp only [List.flatMap_cons, List.length_append, List.length_cons, Nat.add_mul, Nat.one_mul]
    omega
theorem walks_len {n : Nat} (hn : n ≤ 7) (t : List (List Int)) : ∀ (k : Nat) (b left : List Int), (walks n t k b left).length ≤ 7 ^ k
  | 0, b, left => by simp [walks]
  | k + 1, b, left => by
    rw [walks_succ]
    have h := fm_len (f := br n t k b left) (p := 7 ^ k) (fun c => by
      unfold br
      split
      · exact Nat.zero_le _
      · exact walks_len hn t k _ _) (List.range n)
    rw [List.length_range] at h
    have h2 : n * 7 ^ k ≤ 7 * 7 ^ k := Nat.mul_le_mul_right _ hn
    rw [Nat.pow_succ]
    omega
theorem br_len {n : Nat} (hn : n ≤ 7) (t : List (List Int)) (k : Nat) (b left : List Int) (c : Nat) : (br n t k b left c).length ≤ 7 ^ k := by
  unfold br
  split
  · exact Nat.zero_le _
  · exact walks_len hn t k _ _
theorem fm_range_succ (f : Nat → List (List Int)) (c : Nat) : ((List.range (c + 1)).flatMap f).length = ((List.range c).flatMap f).length + (f c).length := by
  rw [List.range_succ, List.flatMap_append]; simp
def sumL (n : Nat) (t : List (List Int)) (k : Nat) (b left : List Int) (c : Nat) : Nat := ((List.range c).flatMap (br n t k b left)).length
theorem sumL_succ (n : Nat) (t : List (List Int)) (k : Nat) (b left : List Int) (c : Nat) : sumL n t k b left (c + 1) = sumL n t k b left c + (br n t k b left c).length := fm_range_succ _ c
theorem sumL_zero (n : Nat) (t : List (List Int)) (k : Nat) (b left : List Int) : sumL n t k b left 0 = 0 := rfl
set_option maxHeartbeats 4000000 in
theorem w38 (n : Nat) (t : List (List Int)) : ∀ (k : Nat) (b left : List Int) (z : Nat), Wok n k t b left → z + 7 ^ k ≤ 10000000 → FnW Try.prog 38 [.I n, .c (Tab t), .c (Row b), .c (Row left), vC] [(1000006, .box 3 [.I z])]
    [.c (.B true)] [(1000006, .box 3 [.I ((z + (walks n t k b left).length : Nat) : Int)])] [1000006]
  | 0, b, left, z, ⟨hb, hn, ht, hr, hl, hv⟩, hz => by
    have g99 := w30 (Row b) z (by omega)
    have e : ((z + (walks n t 0 b left).length : Nat) : Int) = (z : Int) + 1 := by simp [walks]
    rw [e]
    refine fn_walkW code38 (by simp) (by rfl) ?_
    (repeat' (first | refine Sni.mk (fun hc => ?_) ?_ | refine AW_seq ?_ | refine AW_block ?_ | ((first | refine AW_reg ?_ | refine AW_cond ?_ | refine AW_skip ?_ | refine AW_exit ?_ | refine AW_ret ?_ | refine AW_regD (by kernel_rfl) ?_ | refine AW_regX (by kernel_rfl) ?_ | refine CallAt.mkW (g99 ..) (by rfl) (by simp (disch := omega) only [go_sem, Nat.reduceLT, Nat.reduceAdd, Nat.reduceSub, Nat.reduceMul, Nat.reduceBEq, Nat.reduceEqDiff, Nat.reduceLeDiff, reduceCtorEq, ↓reduceIte, beq_dec, Int.reduceToNat, Int.reduceLT, Int.reduceLE, Int.reduceAdd, Int.reduceSub, Int.reduceMul, Int.reduceEq, Int.reduceNeg, Int.reduceNe, Int.toNat_natCast, IntKind.signed, IntKind.bits, Int.reducePow, Nat.reducePow]) (by rfl) (by rfl) (by first | (intro h; cases h; done) | (intro _; simp [RV.flatP, CD.flatP, flatOb, AO.flatP]; done)) ?_ | refine CallAtG.t (Eq.refl true) ?_ | refine CallAtG.f (Eq.refl false) ?_); try simp (disch := omega) only [go_sem, Nat.reduceLT, Nat.reduceAdd, Nat.reduceSub, Nat.reduceMul, Nat.reduceBEq, Nat.reduceEqDiff, Nat.reduceLeDiff, reduceCtorEq, ↓reduceIte, beq_dec, Int.reduceToNat, Int.reduceLT, Int.reduceLE, Int.reduceAdd, Int.reduceSub, Int.reduceMul, Int.reduceEq, Int.reduceNeg, Int.reduceNe, Int.toNat_natCast, IntKind.signed, IntKind.bits, Int.reducePow, Nat.reducePow]) | refine And.intro (fun hc => (?_ : AW _ _ _ _)) (fun hc => (?_ : AW _ _ _ _)) | simp (disch := omega) only [go_sem, Nat.reduceLT, Nat.reduceAdd, Nat.reduceSub, Nat.reduceMul, Nat.reduceBEq, Nat.reduceEqDiff, Nat.reduceLeDiff, reduceCtorEq, ↓reduceIte, beq_dec, Int.reduceToNat, Int.reduceLT, Int.reduceLE, Int.reduceAdd, Int.reduceSub, Int.reduceMul, Int.reduceEq, Int.reduceNeg, Int.reduceNe, Int.toNat_natCast, IntKind.signed, IntKind.bits, Int.reducePow, Nat.reducePow] | (refine And.intro ?_ ?_; focus (first | (intros; omega) | (intros; simp_all; done))) | refine And.intro (?_ : CallAt _ _ _ _ _ _ _ _) ?_ | fail))
    omega
  | k + 1, b, left, z, ⟨hb, hn, ht, hr, hl, hv⟩, hz => by
    have ih := w38 n t k
    have g96 := f96 left (by omega)
    have g96b := f96 b (by omega)
    have hpw : 7 ^ (k + 1) = 7 ^ k * 7 := Nat.pow_succ 7 k
    have hbl := br_len hn t k b left
    have hfl : ∀ c, c ≤ n → sumL n t k b left c ≤ c * 7 ^ k := fun c _ => by
      have := fm_len hbl (List.range c)
      rw [List.length_range] at this
      exact this
    have hc7 : ∀ c, c < n → c * 7 ^ k + 7 ^ k ≤ 7 ^ k * 7 := fun c hc => by
      have : (c + 1) * 7 ^ k ≤ 7 * 7 ^ k := Nat.mul_le_mul_right _ (by omega)
      rw [Nat.add_mul, Nat.one_mul] at this
      omega
    refine fn_walkW code38 (by simp) (by rfl) ?_
    (repeat' (first | refine Sni.mk (fun hc => ?_) ?_ | refine AW_seq ?_ | refine AW_block ?_ | ((first | refine AW_reg ?_ | refine AW_cond ?_ | refine AW_skip ?_ | refine AW_exit ?_ | refine AW_ret ?_ | refine AW_regD (by kernel_rfl) ?_ | refine AW_regX (by kernel_rfl) ?_ | refine CallAtG.t (Eq.refl true) ?_ | refine CallAtG.f (Eq.refl false) ?_); try simp (disch := omega) only [go_sem, Nat.reduceLT, Nat.reduceAdd, Nat.reduceSub, Nat.reduceMul, Nat.reduceBEq, Nat.reduceEqDiff, Nat.reduceLeDiff, reduceCtorEq, ↓reduceIte, beq_dec, Int.reduceToNat, Int.reduceLT, Int.reduceLE, Int.reduceAdd, Int.reduceSub, Int.reduceMul, Int.reduceEq, Int.reduceNeg, Int.reduceNe, Int.toNat_natCast, IntKind.signed, IntKind.bits, Int.reducePow, Nat.reducePow]) | refine And.intro (fun hc => (?_ : AW _ _ _ _)) (fun hc => (?_ : AW _ _ _ _)) | simp (disch := omega) only [go_sem, Nat.reduceLT, Nat.reduceAdd, Nat.reduceSub, Nat.reduceMul, Nat.reduceBEq, Nat.reduceEqDiff, Nat.reduceLeDiff, reduceCtorEq, ↓reduceIte, beq_dec, Int.reduceToNat, Int.reduceLT, Int.reduceLE, Int.reduceAdd, Int.reduceSub, Int.reduceMul, Int.reduceEq, Int.reduceNeg, Int.reduceNe, Int.toNat_natCast, IntKind.signed, IntKind.bits, Int.reducePow, Nat.reducePow] | (refine And.intro ?_ ?_; focus (first | (intros; omega) | (intros; simp_all; done))) | refine And.intro (?_ : CallAt _ _ _ _ _ _ _ _) ?_ | fail))
    · omega
    rw [walks_succ]
    refine AW_loopK [0, 1, 2, 3, 4, 23] [10, 11, 12, 13, 14, 15, 24, 25, 26, 27, 28, 29, 30, 31, 32, 33, 34, 35, 36, 37, 38, 39, 40, 41, 42, 43, 44, 45, 46, 47, 48, 49, 50, 51, 52, 53, 54, 55, 56, 57, 58, 59, 60, 61, 62, 63, 64, 65, 66, 67, 68, 69, 70, 71, 72, 73, 74, 75, 76, 77] (fun c : Nat => c ≤ n) (fun c => [(24, .I c)]) (fun c => [(1000006, .box 3 [.I ((z + sumL n t k b left c : Nat) : Int)])]) (fun c => n - c) 0 (by omega) ?_ ?_
    · simp (disch := omega) only [go_sem, Nat.reduceLT, Nat.reduceAdd, Nat.reduceSub, Nat.reduceMul, Nat.reduceBEq, Nat.reduceEqDiff, Nat.reduceLeDiff, reduceCtorEq, ↓reduceIte, beq_dec, Int.reduceToNat, Int.reduceLT, Int.reduceLE, Int.reduceAdd, Int.reduceSub, Int.reduceMul, Int.reduceEq, Int.reduceNeg, Int.reduceNe, Int.toNat_natCast, IntKind.signed, IntKind.bits, Int.reducePow, Nat.reducePow, Int.natCast_zero, sumL_zero, Nat.add_zero]
    · rintro c hc
      have hfc := hfl c hc
      have hcc := hc7 c
      have hss := sumL_succ n t k b left c
      (repeat' (first | refine Sni.mk (fun hc => ?_) ?_ | refine AW_seq ?_ | refine AW_block ?_ | ((first | refine AW_reg ?_ | refine AW_cond ?_ | refine AW_skip ?_ | refine AW_exit ?_ | refine AW_ret ?_ | refine AW_regD (by kernel_rfl) ?_ | refine AW_regX (by kernel_rfl) ?_ | refine CallAtG.t (Eq.refl true) ?_ | refine CallAtG.f (Eq.refl false) ?_ | refine CallAt.mk _ (f116 ..) (by first | (intro h; cases h; done) | (intro _; repeat' (first | exact List.forall_mem_nil _ | trivial | refine List.forall_mem_cons.2 ⟨?_, ?_⟩)) | (intro _; simp [RV.flatP, CD.flatP]; done)) ?_ | refine CallAtG.mk _ (fun _ => f116 ..) ?_ | refine CallDS.mk _ (by simp [RV.data]) (fun _ => f116 ..) (by first | (intro h; cases h; done) | (intro _; repeat' (first | exact List.forall_mem_nil _ | trivial | refine List.forall_mem_cons.2 ⟨?_, ?_⟩)) | (intro _; simp [RV.flatP, CD.flatP]; done)) ?_ | refine CallAt.mk _ (g96 ..) (by first | (intro h; cases h; done) | (intro _; repeat' (first | exact List.forall_mem_nil _ | trivial | refine List.forall_mem_cons.2 ⟨?_, ?_⟩)) | (intro _; simp [RV.flatP, CD.flatP]; done)) ?_ | refine CallAtG.mk _ (fun _ => g96 ..) ?_ | refine CallDS.mk _ (by simp [RV.data]) (fun _ => g96 ..) (by first | (intro h; cases h; done) | (intro _; repeat' (first | exact List.forall_mem_nil _ | trivial | refine List.forall_mem_cons.2 ⟨?_, ?_⟩)) | (intro _; simp [RV.flatP, CD.flatP]; done)) ?_); try simp (disch := omega) only [go_sem, Nat.reduceLT, Nat.reduceAdd, Nat.reduceSub, Nat.reduceMul, Nat.reduceBEq, Nat.reduceEqDiff, Nat.reduceLeDiff, reduceCtorEq, ↓reduceIte, beq_dec, Int.reduceToNat, Int.reduceLT, Int.reduceLE, Int.reduceAdd, Int.reduceSub, Int.reduceMul, Int.reduceEq, Int.reduceNeg, Int.reduceNe, Int.toNat_natCast, IntKind.signed, IntKind.bits, Int.reducePow, Nat.reducePow]) | refine And.intro (fun hc => (?_ : AW _ _ _ _)) (fun hc => (?_ : AW _ _ _ _)) | simp (disch := omega) only [go_sem, Nat.reduceLT, Nat.reduceAdd, Nat.reduceSub, Nat.reduceMul, Nat.reduceBEq, Nat.reduceEqDiff, Nat.reduceLeDiff, reduceCtorEq, ↓reduceIte, beq_dec, Int.reduceToNat, Int.reduceLT, Int.reduceLE, Int.reduceAdd, Int.reduceSub, Int.reduceMul, Int.reduceEq, Int.reduceNeg, Int.reduceNe, Int.toNat_natCast, IntKind.signed, IntKind.bits, Int.reducePow, Nat.reducePow] | (refine And.intro ?_ ?_; focus (first | (intros; omega) | (intros; simp_all; done))) | refine And.intro (?_ : CallAt _ _ _ _ _ _ _ _) ?_ | fail))
      · -- the column stands already
        refine .mk (c + 1) (by omega) (by omega) ?_
        have e : br n t k b left c = [] := by unfold br; rw [if_pos (.inl (by assumption))]
        rw [e, List.length_nil, Nat.add_zero] at hss
        simp (disch := omega) only [go_sem, Nat.reduceLT, Nat.reduceAdd, Nat.reduceSub, Nat.reduceMul, Nat.reduceBEq, Nat.reduceEqDiff, Nat.reduceLeDiff, reduceCtorEq, ↓reduceIte, beq_dec, Int.reduceToNat, Int.reduceLT, Int.reduceLE, Int.reduceAdd, Int.reduceSub, Int.reduceMul, Int.reduceEq, Int.reduceNeg, Int.reduceNe, Int.toNat_natCast, IntKind.signed, IntKind.bits, Int.reducePow, Nat.reducePow, Int.natCast_add, Int.natCast_one, hss]
      · refine AW_loopK [0, 1, 2, 3, 4, 11, 12, 23, 24, 32, 33] [13, 14, 15, 34, 35, 36, 37, 38, 39, 40, 41, 42, 43, 44, 45, 46, 47, 48, 49, 50, 51, 52, 53, 54, 55, 56, 57, 58, 59, 60, 61, 62] (fun i : Nat => i ≤ t.length) (fun i => [(34, .I i), (12, .own 31), (13, .B (fitsB t left c i))]) (fun i => [(31, .arr 3 1 ((nextL t left c i).map fun x => [CD.I x]))]) (fun i => t.length - i) 0 (by omega) ?_ ?_
        · simp (disch := omega) only [go_sem, Nat.reduceLT, Nat.reduceAdd, Nat.reduceSub, Nat.reduceMul, Nat.reduceBEq, Nat.reduceEqDiff, Nat.reduceLeDiff, reduceCtorEq, ↓reduceIte, beq_dec, Int.reduceToNat, Int.reduceLT, Int.reduceLE, Int.reduceAdd, Int.reduceSub, Int.reduceMul, Int.reduceEq, Int.reduceNeg, Int.reduceNe, Int.toNat_natCast, IntKind.signed, IntKind.bits, Int.reducePow, Nat.reducePow, Int.natCast_zero, nextL_zero]
          simp [fitsB]
        · intro i hi
          have hvi := hv i
          have hnl := nextL_len t left c i
          have e0 : i < left.length → nth (nextL t left c i) i = nth left i := fun h => by rw [nextL_nth t left c i i h]; simp
          (repeat' (first | refine Sni.mk (fun hc => ?_) ?_ | refine AW_seq ?_ | refine AW_block ?_ | ((first | refine AW_reg ?_ | refine AW_cond ?_ | refine AW_skip ?_ | refine AW_exit ?_ | refine AW_ret ?_ | refine AW_regD (by kernel_rfl) ?_ | refine AW_regX (by kernel_rfl) ?_ | refine CallAtG.t (Eq.refl true) ?_ | refine CallAtG.f (Eq.refl false) ?_ | refine CallAt.mk _ (f116 ..) (by first | (intro h; cases h; done) | (intro _; repeat' (first | exact List.forall_mem_nil _ | trivial | refine List.forall_mem_cons.2 ⟨?_, ?_⟩)) | (intro _; simp [RV.flatP, CD.flatP, getD_map (fun r : List Int => [Row r]), getD_map (fun x : Int => [CD.I x]), nextL_len, hl, e0]; done)) ?_ | refine CallAtG.mk _ (fun _ => f116 ..) ?_ | refine CallDS.mk _ (by simp [RV.data]) (fun _ => f116 ..) (by first | (intro h; cases h; done) | (intro _; repeat' (first | exact List.forall_mem_nil _ | trivial | refine List.forall_mem_cons.2 ⟨?_, ?_⟩)) | (intro _; simp [RV.flatP, CD.flatP, getD_map (fun r : List Int => [Row r]), getD_map (fun x : Int => [CD.I x]), nextL_len, hl, e0]; done)) ?_); try simp (disch := omega) only [go_sem, Nat.reduceLT, Nat.reduceAdd, Nat.reduceSub, Nat.reduceMul, Nat.reduceBEq, Nat.reduceEqDiff, Nat.reduceLeDiff, reduceCtorEq, ↓reduceIte, beq_dec, Int.reduceToNat, Int.reduceLT, Int.reduceLE, Int.reduceAdd, Int.reduceSub, Int.reduceMul, Int.reduceEq, Int.reduceNeg, Int.reduceNe, Int.toNat_natCast, IntKind.signed, IntKind.bits, Int.reducePow, Nat.reducePow, getD_map (fun r : List Int => [Row r]), getD_map (fun x : Int => [CD.I x]), nextL_len, hl, e0]) | refine And.intro (fun hc => (?_ : AW _ _ _ _)) (fun hc => (?_ : AW _ _ _ _)) | simp (disch := omega) only [go_sem, Nat.reduceLT, Nat.reduceAdd, Nat.reduceSub, Nat.reduceMul, Nat.reduceBEq, Nat.reduceEqDiff, Nat.reduceLeDiff, reduceCtorEq, ↓reduceIte, beq_dec, Int.reduceToNat, Int.reduceLT, Int.reduceLE, Int.reduceAdd, Int.reduceSub, Int.reduceMul, Int.reduceEq, Int.reduceNeg, Int.reduceNe, Int.toNat_natCast, IntKind.signed, IntKind.bits, Int.reducePow, Nat.reducePow, getD_map (fun r : List Int => [Row r]), getD_map (fun x : Int => [CD.I x]), nextL_len, hl, e0] | (refine And.intro ?_ ?_; focus (first | (intros; omega) | (intros; simp_all; done))) | refine And.intro (?_ : CallAt _ _ _ _ _ _ _ _) ?_ | fail))
          · refine .mk (i + 1) (by omega) (by omega) ?_
            have e1 : fitsB t left c (i + 1) = fitsB t left c i := by rw [fitsB_succ]; simp_all
            simp (disch := omega) only [go_sem, Nat.reduceLT, Nat.reduceAdd, Nat.reduceSub, Nat.reduceMul, Nat.reduceBEq, Nat.reduceEqDiff, Nat.reduceLeDiff, reduceCtorEq, ↓reduceIte, beq_dec, Int.reduceToNat, Int.reduceLT, Int.reduceLE, Int.reduceAdd, Int.reduceSub, Int.reduceMul, Int.reduceEq, Int.reduceNeg, Int.reduceNe, Int.toNat_natCast, IntKind.signed, IntKind.bits, Int.reducePow, Nat.reducePow, Int.natCast_add, Int.natCast_one, e1, nextL_in t left c i (by omega) (by assumption), List.map_set]
          · refine .mk (i + 1) (by omega) (by omega) ?_
            have e1 : fitsB t left c (i + 1) = false := by rw [fitsB_succ]; simp_all
            simp (disch := omega) only [go_sem, Nat.reduceLT, Nat.reduceAdd, Nat.reduceSub, Nat.reduceMul, Nat.reduceBEq, Nat.reduceEqDiff, Nat.reduceLeDiff, reduceCtorEq, ↓reduceIte, beq_dec, Int.reduceToNat, Int.reduceLT, Int.reduceLE, Int.reduceAdd, Int.reduceSub, Int.reduceMul, Int.reduceEq, Int.reduceNeg, Int.reduceNe, Int.toNat_natCast, IntKind.signed, IntKind.bits, Int.reducePow, Nat.reducePow, Int.natCast_add, Int.natCast_one, e1, nextL_out t left c i (by assumption)]
          · refine .mk (i + 1) (by omega) (by omega) ?_
            have e1 : fitsB t left c (i + 1) = fitsB t left c i := by rw [fitsB_succ]; simp_all
            simp (disch := omega) only [go_sem, Nat.reduceLT, Nat.reduceAdd, Nat.reduceSub, Nat.reduceMul, Nat.reduceBEq, Nat.reduceEqDiff, Nat.reduceLeDiff, reduceCtorEq, ↓reduceIte, beq_dec, Int.reduceToNat, Int.reduceLT, Int.reduceLE, Int.reduceAdd, Int.reduceSub, Int.reduceMul, Int.reduceEq, Int.reduceNeg, Int.reduceNe, Int.toNat_natCast, IntKind.signed, IntKind.bits, Int.reducePow, Nat.reducePow, Int.natCast_add, Int.natCast_one, e1, nextL_out t left c i (by assumption)]
          · have hi' : i = t.length := by omega
            subst hi'
            cases hf : fitsB t left c t.length with
            | false =>
              (repeat' (first | refine Sni.mk (fun hc => ?_) ?_ | refine AW_seq ?_ | refine AW_block ?_ | ((first | refine AW_reg ?_ | refine AW_cond ?_ | refine AW_skip ?_ | refine AW_exit ?_ | refine AW_ret ?_ | refine AW_regD (by kernel_rfl) ?_ | refine AW_regX (by kernel_rfl) ?_ | refine CallAtG.t (Eq.refl true) ?_ | refine CallAtG.f (Eq.refl false) ?_); try simp (disch := omega) only [go_sem, Nat.reduceLT, Nat.reduceAdd, Nat.reduceSub, Nat.reduceMul, Nat.reduceBEq, Nat.reduceEqDiff, Nat.reduceLeDiff, reduceCtorEq, ↓reduceIte, beq_dec, Int.reduceToNat, Int.reduceLT, Int.reduceLE, Int.reduceAdd, Int.reduceSub, Int.reduceMul, Int.reduceEq, Int.reduceNeg, Int.reduceNe, Int.toNat_natCast, IntKind.signed, IntKind.bits, Int.reducePow, Nat.reducePow]) | refine And.intro (fun hc => (?_ : AW _ _ _ _)) (fun hc => (?_ : AW _ _ _ _)) | simp (disch := omega) only [go_sem, Nat.reduceLT, Nat.reduceAdd, Nat.reduceSub, Nat.reduceMul, Nat.reduceBEq, Nat.reduceEqDiff, Nat.reduceLeDiff, reduceCtorEq, ↓reduceIte, beq_dec, Int.reduceToNat, Int.reduceLT, Int.reduceLE, Int.reduceAdd, Int.reduceSub, Int.reduceMul, Int.reduceEq, Int.reduceNeg, Int.reduceNe, Int.toNat_natCast, IntKind.signed, IntKind.bits, Int.reducePow, Nat.reducePow] | (refine And.intro ?_ ?_; focus (first | (intros; omega) | (intros; simp_all; done))) | refine And.intro (?_ : CallAt _ _ _ _ _ _ _ _) ?_ | fail))
              refine .mk (c + 1) (by omega) (by omega) ?_
              have e : br n t k b left c = [] := by unfold br; rw [if_pos (.inr hf)]
              rw [e, List.length_nil, Nat.add_zero] at hss
              simp (disch := omega) only [go_sem, Nat.reduceLT, Nat.reduceAdd, Nat.reduceSub, Nat.reduceMul, Nat.reduceBEq, Nat.reduceEqDiff, Nat.reduceLeDiff, reduceCtorEq, ↓reduceIte, beq_dec, Int.reduceToNat, Int.reduceLT, Int.reduceLE, Int.reduceAdd, Int.reduceSub, Int.reduceMul, Int.reduceEq, Int.reduceNeg, Int.reduceNe, Int.toNat_natCast, IntKind.signed, IntKind.bits, Int.reducePow, Nat.reducePow, Int.natCast_add, Int.natCast_one, hss]
            | true =>
              have hbrc : br n t k b left c = walks n t k (b ++ [(c : Int)]) (nextL t left c t.length) := by
                unfold br; rw [if_neg]; rw [hf]; simp; assumption
              have g := ih (b ++ [(c : Int)]) (nextL t left c t.length) (z + sumL n t k b left c) ⟨by simp; omega, hn, ht, hr, by omega, fun i hi => by
                rw [nextL_nth t left c _ i (by omega)]
                have := hv i hi
                split <;> omega⟩ (by have := hcc (by omega); omega)
              simp only [Row, List.map_append, List.map_cons, List.map_nil] at g
              rw [← hbrc, Nat.add_assoc, ← hss] at g
              (repeat' (first | refine Sni.mk (fun hc => ?_) ?_ | refine AW_seq ?_ | refine AW_block ?_ | ((first | refine AW_reg ?_ | refine AW_cond ?_ | refine AW_skip ?_ | refine AW_exit ?_ | refine AW_ret ?_ | refine AW_regD (by kernel_rfl) ?_ | refine AW_regX (by kernel_rfl) ?_ | refine CallAtG.t (Eq.refl true) ?_ | refine CallAtG.f (Eq.refl false) ?_ | refine CallAt.mk _ (g96b ..) (by first | (intro h; cases h; done) | (intro _; repeat' (first | exact List.forall_mem_nil _ | trivial | refine List.forall_mem_cons.2 ⟨?_, ?_⟩)) | (intro _; simp [RV.flatP, CD.flatP, maxLen]; done)) ?_ | refine CallAtG.mk _ (fun _ => g96b ..) ?_ | refine CallDS.mk _ (by simp [RV.data]) (fun _ => g96b ..) (by first | (intro h; cases h; done) | (intro _; repeat' (first | exact List.forall_mem_nil _ | trivial | refine List.forall_mem_cons.2 ⟨?_, ?_⟩)) | (intro _; simp [RV.flatP, CD.flatP, maxLen]; done)) ?_); try simp (disch := omega) only [go_sem, Nat.reduceLT, Nat.reduceAdd, Nat.reduceSub, Nat.reduceMul, Nat.reduceBEq, Nat.reduceEqDiff, Nat.reduceLeDiff, reduceCtorEq, ↓reduceIte, beq_dec, Int.reduceToNat, Int.reduceLT, Int.reduceLE, Int.reduceAdd, Int.reduceSub, Int.reduceMul, Int.reduceEq, Int.reduceNeg, Int.reduceNe, Int.toNat_natCast, IntKind.signed, IntKind.bits, Int.reducePow, Nat.reducePow, maxLen]) | refine And.intro (fun hc => (?_ : AW _ _ _ _)) (fun hc => (?_ : AW _ _ _ _)) | simp (disch := omega) only [go_sem, Nat.reduceLT, Nat.reduceAdd, Nat.reduceSub, Nat.reduceMul, Nat.reduceBEq, Nat.reduceEqDiff, Nat.reduceLeDiff, reduceCtorEq, ↓reduceIte, beq_dec, Int.reduceToNat, Int.reduceLT, Int.reduceLE, Int.reduceAdd, Int.reduceSub, Int.reduceMul, Int.reduceEq, Int.reduceNeg, Int.reduceNe, Int.toNat_natCast, IntKind.signed, IntKind.bits, Int.reducePow, Nat.reducePow, maxLen] | (refine And.intro ?_ ?_; focus (first | (intros; omega) | (intros; simp_all; done))) | refine And.intro (?_ : CallAt _ _ _ _ _ _ _ _) ?_ | fail))
              refine CallAt.frz [31, 68] ?_
              simp (disch := omega) only [go_sem, Nat.reduceLT, Nat.reduceAdd, Nat.reduceSub, Nat.reduceMul, Nat.reduceBEq, Nat.reduceEqDiff, Nat.reduceLeDiff, reduceCtorEq, ↓reduceIte, beq_dec, Int.reduceToNat, Int.reduceLT, Int.reduceLE, Int.reduceAdd, Int.reduceSub, Int.reduceMul, Int.reduceEq, Int.reduceNeg, Int.reduceNe, Int.toNat_natCast, IntKind.signed, IntKind.bits, Int.reducePow, Nat.reducePow]
              (repeat' (first | refine Sni.mk (fun hc => ?_) ?_ | refine AW_seq ?_ | refine AW_block ?_ | ((first | refine AW_reg ?_ | refine AW_cond ?_ | refine AW_skip ?_ | refine AW_exit ?_ | refine AW_ret ?_ | refine AW_regD (by kernel_rfl) ?_ | refine AW_regX (by kernel_rfl) ?_ | refine CallAt.mkW (g ..) (by rfl) (by simp (disch := omega) only [go_sem, Nat.reduceLT, Nat.reduceAdd, Nat.reduceSub, Nat.reduceMul, Nat.reduceBEq, Nat.reduceEqDiff, Nat.reduceLeDiff, reduceCtorEq, ↓reduceIte, beq_dec, Int.reduceToNat, Int.reduceLT, Int.reduceLE, Int.reduceAdd, Int.reduceSub, Int.reduceMul, Int.reduceEq, Int.reduceNeg, Int.reduceNe, Int.toNat_natCast, IntKind.signed, IntKind.bits, Int.reducePow, Nat.reducePow]) (by rfl) (by rfl) (by first | (intro h; cases h; done) | (intro _; simp [RV.flatP, CD.flatP, flatOb, AO.flatP]; done)) ?_ | refine CallAtG.t (Eq.refl true) ?_ | refine CallAtG.f (Eq.refl false) ?_); try simp (disch := omega) only [go_sem, Nat.reduceLT, Nat.reduceAdd, Nat.reduceSub, Nat.reduceMul, Nat.reduceBEq, Nat.reduceEqDiff, Nat.reduceLeDiff, reduceCtorEq, ↓reduceIte, beq_dec, Int.reduceToNat, Int.reduceLT, Int.reduceLE, Int.reduceAdd, Int.reduceSub, Int.reduceMul, Int.reduceEq, Int.reduceNeg, Int.reduceNe, Int.toNat_natCast, IntKind.signed, IntKind.bits, Int.reducePow, Nat.reducePow]) | refine And.intro (fun hc => (?_ : AW _ _ _ _)) (fun hc => (?_ : AW _ _ _ _)) | simp (disch := omega) only [go_sem, Nat.reduceLT, Nat.reduceAdd, Nat.reduceSub, Nat.reduceMul, Nat.reduceBEq, Nat.reduceEqDiff, Nat.reduceLeDiff, reduceCtorEq, ↓reduceIte, beq_dec, Int.reduceToNat, Int.reduceLT, Int.reduceLE, Int.reduceAdd, Int.reduceSub, Int.reduceMul, Int.reduceEq, Int.reduceNeg, Int.reduceNe, Int.toNat_natCast, IntKind.signed, IntKind.bits, Int.reducePow, Nat.reducePow] | (refine And.intro ?_ ?_; focus (first | (intros; omega) | (intros; simp_all; done))) | refine And.intro (?_ : CallAt _ _ _ _ _ _ _ _) ?_ | fail))
              refine .mk (c + 1) (by omega) (by omega) ?_
              simp (disch := omega) only [go_sem, Nat.reduceLT, Nat.reduceAdd, Nat.reduceSub, Nat.reduceMul, Nat.reduceBEq, Nat.reduceEqDiff, Nat.reduceLeDiff, reduceCtorEq, ↓reduceIte, beq_dec, Int.reduceToNat, Int.reduceLT, Int.reduceLE, Int.reduceAdd, Int.reduceSub, Int.reduceMul, Int.reduceEq, Int.reduceNeg, Int.reduceNe, Int.toNat_natCast, IntKind.signed, IntKind.bits, Int.reducePow, Nat.reducePow, Int.natCast_add, Int.natCast_one]
      · rw [show c = n by omega]
        rfl
theorem w29 (n : Int) (t : List (List Int)) (h : validT n t = true) : FnW Try.prog 29 [.I n, .c (Tab t), vC] [(1000006, .box 3 [.I 0])]
    [] [(1000006, .box 3 [.I (((walks n.toNat t n.toNat [] (t.map fun r => (r.length : Int))).length : Nat) : Int)])] [1000006] := by
  obtain ⟨h1, h2, h3, h4⟩ := tab_ok h
  obtain ⟨m, rfl⟩ : ∃ m : Nat, n = m := ⟨n.toNat, by omega⟩
  simp only [Int.toNat_natCast]
  have hnth : ∀ i, i < t.length → nth (t.map fun r => (r.length : Int)) i = ((nth t i).length : Int) := fun i hi => by
    rw [nth_eq _ i (by simpa using hi), nth_eq _ i hi]; simp
  have hp7 : 7 ^ m ≤ 7 ^ 7 := Nat.pow_le_pow_right (by omega) (by omega)
  have hpw : (7 : Nat) ^ 7 = 823543 := by decide
  have g130 := w38 m t m [] (t.map fun r => (r.length : Int)) 0 ⟨by simp, by omega, h3, fun i hi => by have := h4 i hi; omega, by simp, fun i hi => by
    rw [hnth i hi]
    have := h4 i hi
    omega⟩ (by omega)
  simp only [Nat.zero_add, Int.natCast_zero] at g130
  refine fn_walkW code29 (by simp) (by rfl) ?_
  (repeat' (first | refine Sni.mk (fun hc => ?_) ?_ | refine AW_seq ?_ | refine AW_block ?_ | ((first | refine AW_reg ?_ | refine AW_cond ?_ | refine AW_skip ?_ | refine AW_exit ?_ | refine AW_ret ?_ | refine AW_regD (by kernel_rfl) ?_ | refine AW_regX (by kernel_rfl) ?_ | refine CallAtG.t (Eq.refl true) ?_ | refine CallAtG.f (Eq.refl false) ?_); try simp (disch := omega) only [go_sem, Nat.reduceLT, Nat.reduceAdd, Nat.reduceSub, Nat.reduceMul, Nat.reduceBEq, Nat.reduceEqDiff, Nat.reduceLeDiff, reduceCtorEq, ↓reduceIte, beq_dec, Int.reduceToNat, Int.reduceLT, Int.reduceLE, Int.reduceAdd, Int.reduceSub, Int.reduceMul, Int.reduceEq, Int.reduceNeg, Int.reduceNe, Int.toNat_natCast, IntKind.signed, IntKind.bits, Int.reducePow, Nat.reducePow]) | refine And.intro (fun hc => (?_ : AW _ _ _ _)) (fun hc => (?_ : AW _ _ _ _)) | simp (disch := omega) only [go_sem, Nat.reduceLT, Nat.reduceAdd, Nat.reduceSub, Nat.reduceMul, Nat.reduceBEq, Nat.reduceEqDiff, Nat.reduceLeDiff, reduceCtorEq, ↓reduceIte, beq_dec, Int.reduceToNat, Int.reduceLT, Int.reduceLE, Int.reduceAdd, Int.reduceSub, Int.reduceMul, Int.reduceEq, Int.reduceNeg, Int.reduceNe, Int.toNat_natCast, IntKind.signed, IntKind.bits, Int.reducePow, Nat.reducePow] | (refine And.intro ?_ ?_; focus (first | (intros; omega) | (intros; simp_all; done))) | refine And.intro (?_ : CallAt _ _ _ _ _ _ _ _) ?_ | fail))
  refine AW_nil 6 900 3 1 (by rfl) ?_
  refine AW_loopK [0, 1, 2, 9, 10] [6, 8, 11, 12, 13, 14, 15, 16, 17, 18, 19, 20] (fun i : Nat => i ≤ t.length) (fun i => [(11, .I i), (6, .own 900)]) (fun i => [(900, .arr 3 1 (((t.take i).map fun r => (r.length : Int)).map fun x => [CD.I x]))]) (fun i => t.length - i) 0 (by omega) ?_ ?_
  · simp (disch := omega) only [go_sem, Nat.reduceLT, Nat.reduceAdd, Nat.reduceSub, Nat.reduceMul, Nat.reduceBEq, Nat.reduceEqDiff, Nat.reduceLeDiff, reduceCtorEq, ↓reduceIte, beq_dec, Int.reduceToNat, Int.reduceLT, Int.reduceLE, Int.reduceAdd, Int.reduceSub, Int.reduceMul, Int.reduceEq, Int.reduceNeg, Int.reduceNe, Int.toNat_natCast, IntKind.signed, IntKind.bits, Int.reducePow, Nat.reducePow, Int.natCast_zero]
  · intro i hi
    (repeat' (first | refine Sni.mk (fun hc => ?_) ?_ | refine AW_seq ?_ | refine AW_block ?_ | ((first | refine AW_reg ?_ | refine AW_cond ?_ | refine AW_skip ?_ | refine AW_exit ?_ | refine AW_ret ?_ | refine AW_regD (by kernel_rfl) ?_ | refine AW_regX (by kernel_rfl) ?_ | refine CallAtG.t (Eq.refl true) ?_ | refine CallAtG.f (Eq.refl false) ?_); try simp (disch := omega) only [go_sem, Nat.reduceLT, Nat.reduceAdd, Nat.reduceSub, Nat.reduceMul, Nat.reduceBEq, Nat.reduceEqDiff, Nat.reduceLeDiff, reduceCtorEq, ↓reduceIte, beq_dec, Int.reduceToNat, Int.reduceLT, Int.reduceLE, Int.reduceAdd, Int.reduceSub, Int.reduceMul, Int.reduceEq, Int.reduceNeg, Int.reduceNe, Int.toNat_natCast, IntKind.signed, IntKind.bits, Int.reducePow, Nat.reducePow, maxLen, getD_map (fun r : List Int => [Row r]), List.length_take]) | refine And.intro (fun hc => (?_ : AW _ _ _ _)) (fun hc => (?_ : AW _ _ _ _)) | simp (disch := omega) only [go_sem, Nat.reduceLT, Nat.reduceAdd, Nat.reduceSub, Nat.reduceMul, Nat.reduceBEq, Nat.reduceEqDiff, Nat.reduceLeDiff, reduceCtorEq, ↓reduceIte, beq_dec, Int.reduceToNat, Int.reduceLT, Int.reduceLE, Int.reduceAdd, Int.reduceSub, Int.reduceMul, Int.reduceEq, Int.reduceNeg, Int.reduceNe, Int.toNat_natCast, IntKind.signed, IntKind.bits, Int.reducePow, Nat.reducePow, maxLen, getD_map (fun r : List Int => [Row r]), List.length_take] | (refine And.intro ?_ ?_; focus (first | (intros; omega) | (intros; simp_all; done))) | refine And.intro (?_ : CallAt _ _ _ _ _ _ _ _) ?_ | fail))
    · refine .mk (i + 1) (by omega) (by omega) ?_
      have e : t.take (i + 1) = t.take i ++ [nth t i] := by rw [List.take_succ_eq_append_getElem (by omega), nth_eq t i (by omega)]
      simp (disch := omega) only [go_sem, Nat.reduceLT, Nat.reduceAdd, Nat.reduceSub, Nat.reduceMul, Nat.reduceBEq, Nat.reduceEqDiff, Nat.reduceLeDiff, reduceCtorEq, ↓reduceIte, beq_dec, Int.reduceToNat, Int.reduceLT, Int.reduceLE, Int.reduceAdd, Int.reduceSub, Int.reduceMul, Int.reduceEq, Int.reduceNeg, Int.reduceNe, Int.toNat_natCast, IntKind.signed, IntKind.bits, Int.reducePow, Nat.reducePow, Int.natCast_add, Int.natCast_one, e, List.map_append]
    · have hi' : i = t.length := by omega
      subst hi'
      refine CallAt.frz [900] ?_
      have g := FnW.nil (pre := [_, _]) (post := [_, _]) g130
      simp only [List.cons_append, List.nil_append] at g
      simp only [List.take_length]
      (repeat' (first | refine Sni.mk (fun hc => ?_) ?_ | refine AW_seq ?_ | refine AW_block ?_ | ((first | refine AW_reg ?_ | refine AW_cond ?_ | refine AW_skip ?_ | refine AW_exit ?_ | refine AW_ret ?_ | refine AW_regD (by kernel_rfl) ?_ | refine AW_regX (by kernel_rfl) ?_ | refine CallAt.mkW (g ..) (by rfl) (by simp (disch := omega) only [go_sem, Nat.reduceLT, Nat.reduceAdd, Nat.reduceSub, Nat.reduceMul, Nat.reduceBEq, Nat.reduceEqDiff, Nat.reduceLeDiff, reduceCtorEq, ↓reduceIte, beq_dec, Int.reduceToNat, Int.reduceLT, Int.reduceLE, Int.reduceAdd, Int.reduceSub, Int.reduceMul, Int.reduceEq, Int.reduceNeg, Int.reduceNe, Int.toNat_natCast, IntKind.signed, IntKind.bits, Int.reducePow, Nat.reducePow]) (by rfl) (by rfl) (by first | (intro h; cases h; done) | (intro _; simp [RV.flatP, CD.flatP, flatOb, AO.flatP]; done)) ?_ | refine CallAtG.t (Eq.refl true) ?_ | refine CallAtG.f (Eq.refl false) ?_); try simp (disch := omega) only [go_sem, Nat.reduceLT, Nat.reduceAdd, Nat.reduceSub, Nat.reduceMul, Nat.reduceBEq, Nat.reduceEqDiff, Nat.reduceLeDiff, reduceCtorEq, ↓reduceIte, beq_dec, Int.reduceToNat, Int.reduceLT, Int.reduceLE, Int.reduceAdd, Int.reduceSub, Int.reduceMul, Int.reduceEq, Int.reduceNeg, Int.reduceNe, Int.toNat_natCast, IntKind.signed, IntKind.bits, Int.reducePow, Nat.reducePow]) | refine And.intro (fun hc => (?_ : AW _ _ _ _)) (fun hc => (?_ : AW _ _ _ _)) | simp (disch := omega) only [go_sem, Nat.reduceLT, Nat.reduceAdd, Nat.reduceSub, Nat.reduceMul, Nat.reduceBEq, Nat.reduceEqDiff, Nat.reduceLeDiff, reduceCtorEq, ↓reduceIte, beq_dec, Int.reduceToNat, Int.reduceLT, Int.reduceLE, Int.reduceAdd, Int.reduceSub, Int.reduceMul, Int.reduceEq, Int.reduceNeg, Int.reduceNe, Int.toNat_natCast, IntKind.signed, IntKind.bits, Int.reducePow, Nat.reducePow] | (refine And.intro ?_ ?_; focus (first | (intros; omega) | (intros; simp_all; done))) | refine And.intro (?_ : CallAt _ _ _ _ _ _ _ _) ?_ | fail))
def cntV (n : Int) (t : List (List Int)) : Int := ((ords n t).length : Nat)
def valE (n : Int) (t : List (List Int)) : Int := if validT n t = true then 0 else 1
theorem w11 (n : Int) (t : List (List Int)) : FnR Try.prog 11 [.I n, .c (Tab t)] [.c (.I (cntV n t)), .c (.I (valE n t))] := by
  refine fn_walk code11 (by simp) ?_
  have g38 := f38 n t
  unfold cntV valE ords
  cases hv : validT n t with
  | false =>
    rw [hv] at g38
    simp only [Bool.false_eq_true, if_false]
    (repeat' (first | refine Sni.mk (fun hc => ?_) ?_ | refine AW_seq ?_ | refine AW_block ?_ | ((first | refine AW_reg ?_ | refine AW_cond ?_ | refine AW_skip ?_ | refine AW_exit ?_ | refine AW_ret ?_ | refine AW_regD (by kernel_rfl) ?_ | refine AW_regX (by kernel_rfl) ?_ | refine CallAtG.t (Eq.refl true) ?_ | refine CallAtG.f (Eq.refl false) ?_ | refine CallAt.mk _ (g38 ..) (by first | (intro h; cases h; done) | (intro _; repeat' (first | exact List.forall_mem_nil _ | trivial | refine List.forall_mem_cons.2 ⟨?_, ?_⟩)) | (intro _; simp [RV.flatP, CD.flatP]; done)) ?_ | refine CallAtG.mk _ (fun _ => g38 ..) ?_ | refine CallDS.mk _ (by simp [RV.data]) (fun _ => g38 ..) (by first | (intro h; cases h; done) | (intro _; repeat' (first | exact List.forall_mem_nil _ | trivial | refine List.forall_mem_cons.2 ⟨?_, ?_⟩)) | (intro _; simp [RV.flatP, CD.flatP]; done)) ?_); try simp (disch := omega) only [go_sem, Nat.reduceLT, Nat.reduceAdd, Nat.reduceSub, Nat.reduceMul, Nat.reduceBEq, Nat.reduceEqDiff, Nat.reduceLeDiff, reduceCtorEq, ↓reduceIte, beq_dec, Int.reduceToNat, Int.reduceLT, Int.reduceLE, Int.reduceAdd, Int.reduceSub, Int.reduceMul, Int.reduceEq, Int.reduceNeg, Int.reduceNe, Int.toNat_natCast, IntKind.signed, IntKind.bits, Int.reducePow, Nat.reducePow]) | refine And.intro (fun hc => (?_ : AW _ _ _ _)) (fun hc => (?_ : AW _ _ _ _)) | simp (disch := omega) only [go_sem, Nat.reduceLT, Nat.reduceAdd, Nat.reduceSub, Nat.reduceMul, Nat.reduceBEq, Nat.reduceEqDiff, Nat.reduceLeDiff, reduceCtorEq, ↓reduceIte, beq_dec, Int.reduceToNat, Int.reduceLT, Int.reduceLE, Int.reduceAdd, Int.reduceSub, Int.reduceMul, Int.reduceEq, Int.reduceNeg, Int.reduceNe, Int.toNat_natCast, IntKind.signed, IntKind.bits, Int.reducePow, Nat.reducePow] | (refine And.intro ?_ ?_; focus (first | (intros; omega) | (intros; simp_all; done))) | refine And.intro (?_ : CallAt _ _ _ _ _ _ _ _) ?_ | fail))
    rfl
  | true =>
    rw [hv] at g38
    have g := FnW.low (w29 n t hv)
    simp only [renL, AV.ren, renOb, AO.ren, List.map_cons, List.map_nil, rn6] at g
    simp only [if_true]
    generalize walks n.toNat t n.toNat [] (t.map fun r => (r.length : Int)) = W at g
    (repeat' (first | refine Sni.mk (fun hc => ?_) ?_ | refine AW_seq ?_ | refine AW_block ?_ | ((first | refine AW_reg ?_ | refine AW_cond ?_ | refine AW_skip ?_ | refine AW_exit ?_ | refine AW_ret ?_ | refine AW_regD (by kernel_rfl) ?_ | refine AW_regX (by kernel_rfl) ?_ | refine CallAt.mkW (g ..) (by rfl) (by simp (disch := omega) only [go_sem, Nat.reduceLT, Nat.reduceAdd, Nat.reduceSub, Nat.reduceMul, Nat.reduceBEq, Nat.reduceEqDiff, Nat.reduceLeDiff, reduceCtorEq, ↓reduceIte, beq_dec, Int.reduceToNat, Int.reduceLT, Int.reduceLE, Int.reduceAdd, Int.reduceSub, Int.reduceMul, Int.reduceEq, Int.reduceNeg, Int.reduceNe, Int.toNat_natCast, IntKind.signed, IntKind.bits, Int.reducePow, Nat.reducePow]) (by rfl) (by rfl) (by first | (intro h; cases h; done) | (intro _; simp [RV.flatP, CD.flatP, flatOb, AO.flatP]; done)) ?_ | refine CallAtG.t (Eq.refl true) ?_ | refine CallAtG.f (Eq.refl false) ?_ | refine CallAt.mk _ (g38 ..) (by first | (intro h; cases h; done) | (intro _; repeat' (first | exact List.forall_mem_nil _ | trivial | refine List.forall_mem_cons.2 ⟨?_, ?_⟩)) | (intro _; simp [RV.flatP, CD.flatP]; done)) ?_ | refine CallAtG.mk _ (fun _ => g38 ..) ?_ | refine CallDS.mk _ (by simp [RV.data]) (fun _ => g38 ..) (by first | (intro h; cases h; done) | (intro _; repeat' (first | exact List.forall_mem_nil _ | trivial | refine List.forall_mem_cons.2 ⟨?_, ?_⟩)) | (intro _; simp [RV.flatP, CD.flatP]; done)) ?_); try simp (disch := omega) only [go_sem, Nat.reduceLT, Nat.reduceAdd, Nat.reduceSub, Nat.reduceMul, Nat.reduceBEq, Nat.reduceEqDiff, Nat.reduceLeDiff, reduceCtorEq, ↓reduceIte, beq_dec, Int.reduceToNat, Int.reduceLT, Int.reduceLE, Int.reduceAdd, Int.reduceSub, Int.reduceMul, Int.reduceEq, Int.reduceNeg, Int.reduceNe, Int.toNat_natCast, IntKind.signed, IntKind.bits, Int.reducePow, Nat.reducePow]) | refine And.intro (fun hc => (?_ : AW _ _ _ _)) (fun hc => (?_ : AW _ _ _ _)) | simp (disch := omega) only [go_sem, Nat.reduceLT, Nat.reduceAdd, Nat.reduceSub, Nat.reduceMul, Nat.reduceBEq, Nat.reduceEqDiff, Nat.reduceLeDiff, reduceCtorEq, ↓reduceIte, beq_dec, Int.reduceToNat, Int.reduceLT, Int.reduceLE, Int.reduceAdd, Int.reduceSub, Int.reduceMul, Int.reduceEq, Int.reduceNeg, Int.reduceNe, Int.toNat_natCast, IntKind.signed, IntKind.bits, Int.reducePow, Nat.reducePow] | (refine And.intro ?_ ?_; focus (first | (intros; omega) | (intros; simp_all; done))) | refine And.intro (?_ : CallAt _ _ _ _ _ _ _ _) ?_ | fail))
/-! ### the reference's -/
theorem w14 (n : Int) (t : List (List Int)) : FnR Try.prog 14 [.I n, .c (Tab t)] [.c (fo (if validT n t = true then allR n t else [])), .c (.I (if validT n t = true then (if (allR n t).isEmpty = true then 7 else 0) else 1))] := by
  refine fn_walk code14 (by simp) ?_
  have g34 := f34 n t
  cases hv : validT n t with
  | false =>
    rw [hv] at g34
    simp only [Bool.false_eq_true, if_false, fo]
    (repeat' (first | refine Sni.mk (fun hc => ?_) ?_ | refine AW_seq ?_ | refine AW_block ?_ | ((first | refine AW_reg ?_ | refine AW_cond ?_ | refine AW_skip ?_ | refine AW_exit ?_ | refine AW_ret ?_ | refine AW_regD (by kernel_rfl) ?_ | refine AW_regX (by kernel_rfl) ?_ | refine CallAtG.t (Eq.refl true) ?_ | refine CallAtG.f (Eq.refl false) ?_ | refine CallAt.mk _ (g34 ..) (by first | (intro h; cases h; done) | (intro _; repeat' (first | exact List.forall_mem_nil _ | trivial | refine List.forall_mem_cons.2 ⟨?_, ?_⟩)) | (intro _; simp [RV.flatP, CD.flatP]; done)) ?_ | refine CallAtG.mk _ (fun _ => g34 ..) ?_ | refine CallDS.mk _ (by simp [RV.data]) (fun _ => g34 ..) (by first | (intro h; cases h; done) | (intro _; repeat' (first | exact List.forall_mem_nil _ | trivial | refine List.forall_mem_cons.2 ⟨?_, ?_⟩)) | (intro _; simp [RV.flatP, CD.flatP]; done)) ?_); try simp (disch := omega) only [go_sem, Nat.reduceLT, Nat.reduceAdd, Nat.reduceSub, Nat.reduceMul, Nat.reduceBEq, Nat.reduceEqDiff, Nat.reduceLeDiff, reduceCtorEq, ↓reduceIte, beq_dec, Int.reduceToNat, Int.reduceLT, Int.reduceLE, Int.reduceAdd, Int.reduceSub, Int.reduceMul, Int.reduceEq, Int.reduceNeg, Int.reduceNe, Int.toNat_natCast, IntKind.signed, IntKind.bits, Int.reducePow, Nat.reducePow]) | refine And.intro (fun hc => (?_ : AW _ _ _ _)) (fun hc => (?_ : AW _ _ _ _)) | simp (disch := omega) only [go_sem, Nat.reduceLT, Nat.reduceAdd, Nat.reduceSub, Nat.reduceMul, Nat.reduceBEq, Nat.reduceEqDiff, Nat.reduceLeDiff, reduceCtorEq, ↓reduceIte, beq_dec, Int.reduceToNat, Int.reduceLT, Int.reduceLE, Int.reduceAdd, Int.reduceSub, Int.reduceMul, Int.reduceEq, Int.reduceNeg, Int.reduceNe, Int.toNat_natCast, IntKind.signed, IntKind.bits, Int.reducePow, Nat.reducePow] | (refine And.intro ?_ ?_; focus (first | (intros; omega) | (intros; simp_all; done))) | refine And.intro (?_ : CallAt _ _ _ _ _ _ _ _) ?_ | fail))
  | true =>
    rw [hv] at g34
    obtain ⟨h1, h2, h3, h4⟩ := validT_of hv
    have g100 := (f100 n t ⟨h1, h2⟩).freeze
    simp only [RV.froze, List.map_cons, List.map_nil] at g100
    simp only [if_true]
    generalize allR n t = W at g100
    cases W with
    | nil =>
      simp only [fo, List.isEmpty_nil, if_true]
      (repeat' (first | refine Sni.mk (fun hc => ?_) ?_ | refine AW_seq ?_ | refine AW_block ?_ | ((first | refine AW_reg ?_ | refine AW_cond ?_ | refine AW_skip ?_ | refine AW_exit ?_ | refine AW_ret ?_ | refine AW_regD (by kernel_rfl) ?_ | refine AW_regX (by kernel_rfl) ?_ | refine CallAtG.t (Eq.refl true) ?_ | refine CallAtG.f (Eq.refl false) ?_ | refine CallAt.mk _ (g34 ..) (by first | (intro h; cases h; done) | (intro _; repeat' (first | exact List.forall_mem_nil _ | trivial | refine List.forall_mem_cons.2 ⟨?_, ?_⟩)) | (intro _; simp [RV.flatP, CD.flatP]; done)) ?_ | refine CallAtG.mk _ (fun _ => g34 ..) ?_ | refine CallDS.mk _ (by simp [RV.data]) (fun _ => g34 ..) (by first | (intro h; cases h; done) | (intro _; repeat' (first | exact List.forall_mem_nil _ | trivial | refine List.forall_mem_cons.2 ⟨?_, ?_⟩)) | (intro _; simp [RV.flatP, CD.flatP]; done)) ?_ | refine CallAt.mk _ (g100 ..) (by first | (intro h; cases h; done) | (intro _; repeat' (first | exact List.forall_mem_nil _ | trivial | refine List.forall_mem_cons.2 ⟨?_, ?_⟩)) | (intro _; simp [RV.flatP, CD.flatP]; done)) ?_ | refine CallAtG.mk _ (fun _ => g100 ..) ?_ | refine CallDS.mk _ (by simp [RV.data]) (fun _ => g100 ..) (by first | (intro h; cases h; done) | (intro _; repeat' (first | exact List.forall_mem_nil _ | trivial | refine List.forall_mem_cons.2 ⟨?_, ?_⟩)) | (intro _; simp [RV.flatP, CD.flatP]; done)) ?_); try simp (disch := omega) only [go_sem, Nat.reduceLT, Nat.reduceAdd, Nat.reduceSub, Nat.reduceMul, Nat.reduceBEq, Nat.reduceEqDiff, Nat.reduceLeDiff, reduceCtorEq, ↓reduceIte, beq_dec, Int.reduceToNat, Int.reduceLT, Int.reduceLE, Int.reduceAdd, Int.reduceSub, Int.reduceMul, Int.reduceEq, Int.reduceNeg, Int.reduceNe, Int.toNat_natCast, IntKind.signed, IntKind.bits, Int.reducePow, Nat.reducePow]) | refine And.intro (fun hc => (?_ : AW _ _ _ _)) (fun hc => (?_ : AW _ _ _ _)) | simp (disch := omega) only [go_sem, Nat.reduceLT, Nat.reduceAdd, Nat.reduceSub, Nat.reduceMul, Nat.reduceBEq, Nat.reduceEqDiff, Nat.reduceLeDiff, reduceCtorEq, ↓reduceIte, beq_dec, Int.reduceToNat, Int.reduceLT, Int.reduceLE, Int.reduceAdd, Int.reduceSub, Int.reduceMul, Int.reduceEq, Int.reduceNeg, Int.reduceNe, Int.toNat_natCast, IntKind.signed, IntKind.bits, Int.reducePow, Nat.reducePow] | (refine And.intro ?_ ?_; focus (first | (intros; omega) | (intros; simp_all; done))) | refine And.intro (?_ : CallAt _ _ _ _ _ _ _ _) ?_ | fail))
      omega
    | cons o r =>
      simp only [fo, List.isEmpty_cons, Bool.false_eq_true, if_false]
      (repeat' (first | refine Sni.mk (fun hc => ?_) ?_ | refine AW_seq ?_ | refine AW_block ?_ | ((first | refine AW_reg ?_ | refine AW_cond ?_ | refine AW_skip ?_ | refine AW_exit ?_ | refine AW_ret ?_ | refine AW_regD (by kernel_rfl) ?_ | refine AW_regX (by kernel_rfl) ?_ | refine CallAtG.t (Eq.refl true) ?_ | refine CallAtG.f (Eq.refl false) ?_ | refine CallAt.mk _ (g34 ..) (by first | (intro h; cases h; done) | (intro _; repeat' (first | exact List.forall_mem_nil _ | trivial | refine List.forall_mem_cons.2 ⟨?_, ?_⟩)) | (intro _; simp [RV.flatP, CD.flatP, getD_map (fun r : List Int => [Row r])]; done)) ?_ | refine CallAtG.mk _ (fun _ => g34 ..) ?_ | refine CallDS.mk _ (by simp [RV.data]) (fun _ => g34 ..) (by first | (intro h; cases h; done) | (intro _; repeat' (first | exact List.forall_mem_nil _ | trivial | refine List.forall_mem_cons.2 ⟨?_, ?_⟩)) | (intro _; simp [RV.flatP, CD.flatP, getD_map (fun r : List Int => [Row r])]; done)) ?_ | refine CallAt.mk _ (g100 ..) (by first | (intro h; cases h; done) | (intro _; repeat' (first | exact List.forall_mem_nil _ | trivial | refine List.forall_mem_cons.2 ⟨?_, ?_⟩)) | (intro _; simp [RV.flatP, CD.flatP, getD_map (fun r : List Int => [Row r])]; done)) ?_ | refine CallAtG.mk _ (fun _ => g100 ..) ?_ | refine CallDS.mk _ (by simp [RV.data]) (fun _ => g100 ..) (by first | (intro h; cases h; done) | (intro _; repeat' (first | exact List.forall_mem_nil _ | trivial | refine List.forall_mem_cons.2 ⟨?_, ?_⟩)) | (intro _; simp [RV.flatP, CD.flatP, getD_map (fun r : List Int => [Row r])]; done)) ?_); try simp (disch := omega) only [go_sem, Nat.reduceLT, Nat.reduceAdd, Nat.reduceSub, Nat.reduceMul, Nat.reduceBEq, Nat.reduceEqDiff, Nat.reduceLeDiff, reduceCtorEq, ↓reduceIte, beq_dec, Int.reduceToNat, Int.reduceLT, Int.reduceLE, Int.reduceAdd, Int.reduceSub, Int.reduceMul, Int.reduceEq, Int.reduceNeg, Int.reduceNe, Int.toNat_natCast, IntKind.signed, IntKind.bits, Int.reducePow, Nat.reducePow, getD_map (fun r : List Int => [Row r])]) | refine And.intro (fun hc => (?_ : AW _ _ _ _)) (fun hc => (?_ : AW _ _ _ _)) | simp (disch := omega) only [go_sem, Nat.reduceLT, Nat.reduceAdd, Nat.reduceSub, Nat.reduceMul, Nat.reduceBEq, Nat.reduceEqDiff, Nat.reduceLeDiff, reduceCtorEq, ↓reduceIte, beq_dec, Int.reduceToNat, Int.reduceLT, Int.reduceLE, Int.reduceAdd, Int.reduceSub, Int.reduceMul, Int.reduceEq, Int.reduceNeg, Int.reduceNe, Int.toNat_natCast, IntKind.signed, IntKind.bits, Int.reducePow, Nat.reducePow, getD_map (fun r : List Int => [Row r])] | (refine And.intro ?_ ?_; focus (first | (intros; omega) | (intros; simp_all; done))) | refine And.intro (?_ : CallAt _ _ _ _ _ _ _ _) ?_ | fail))
      · omega
      · rfl
theorem w15 (n : Int) (t : List (List Int)) : FnR Try.prog 15 [.I n, .c (Tab t)] [.c (.I (if validT n t = true then ((allR n t).length : Nat) else 0)), .c (.I (valE n t))] := by
  refine fn_walk code15 (by simp) ?_
  have g34 := f34 n t
  unfold valE
  cases hv : validT n t with
  | false =>
    rw [hv] at g34
    simp only [Bool.false_eq_true, if_false]
    (repeat' (first | refine Sni.mk (fun hc => ?_) ?_ | refine AW_seq ?_ | refine AW_block ?_ | ((first | refine AW_reg ?_ | refine AW_cond ?_ | refine AW_skip ?_ | refine AW_exit ?_ | refine AW_ret ?_ | refine AW_regD (by kernel_rfl) ?_ | refine AW_regX (by kernel_rfl) ?_ | refine CallAtG.t (Eq.refl true) ?_ | refine CallAtG.f (Eq.refl false) ?_ | refine CallAt.mk _ (g34 ..) (by first | (intro h; cases h; done) | (intro _; repeat' (first | exact List.forall_mem_nil _ | trivial | refine List.forall_mem_cons.2 ⟨?_, ?_⟩)) | (intro _; simp [RV.flatP, CD.flatP]; done)) ?_ | refine CallAtG.mk _ (fun _ => g34 ..) ?_ | refine CallDS.mk _ (by simp [RV.data]) (fun _ => g34 ..) (by first | (intro h; cases h; done) | (intro _; repeat' (first | exact List.forall_mem_nil _ | trivial | refine List.forall_mem_cons.2 ⟨?_, ?_⟩)) | (intro _; simp [RV.flatP, CD.flatP]; done)) ?_); try simp (disch := omega) only [go_sem, Nat.reduceLT, Nat.reduceAdd, Nat.reduceSub, Nat.reduceMul, Nat.reduceBEq, Nat.reduceEqDiff, Nat.reduceLeDiff, reduceCtorEq, ↓reduceIte, beq_dec, Int.reduceToNat, Int.reduceLT, Int.reduceLE, Int.reduceAdd, Int.reduceSub, Int.reduceMul, Int.reduceEq, Int.reduceNeg, Int.reduceNe, Int.toNat_natCast, IntKind.signed, IntKind.bits, Int.reducePow, Nat.reducePow]) | refine And.intro (fun hc => (?_ : AW _ _ _ _)) (fun hc => (?_ : AW _ _ _ _)) | simp (disch := omega) only [go_sem, Nat.reduceLT, Nat.reduceAdd, Nat.reduceSub, Nat.reduceMul, Nat.reduceBEq, Nat.reduceEqDiff, Nat.reduceLeDiff, reduceCtorEq, ↓reduceIte, beq_dec, Int.reduceToNat, Int.reduceLT, Int.reduceLE, Int.reduceAdd, Int.reduceSub, Int.reduceMul, Int.reduceEq, Int.reduceNeg, Int.reduceNe, Int.toNat_natCast, IntKind.signed, IntKind.bits, Int.reducePow, Nat.reducePow] | (refine And.intro ?_ ?_; focus (first | (intros; omega) | (intros; simp_all; done))) | refine And.intro (?_ : CallAt _ _ _ _ _ _ _ _) ?_ | fail))
  | true =>
    rw [hv] at g34
    obtain ⟨h1, h2, h3, h4⟩ := validT_of hv
    have g100 := f100 n t ⟨h1, h2⟩
    simp only [if_true]
    (repeat' (first | refine Sni.mk (fun hc => ?_) ?_ | refine AW_seq ?_ | refine AW_block ?_ | ((first | refine AW_reg ?_ | refine AW_cond ?_ | refine AW_skip ?_ | refine AW_exit ?_ | refine AW_ret ?_ | refine AW_regD (by kernel_rfl) ?_ | refine AW_regX (by kernel_rfl) ?_ | refine CallAtG.t (Eq.refl true) ?_ | refine CallAtG.f (Eq.refl false) ?_ | refine CallAt.mk _ (g34 ..) (by first | (intro h; cases h; done) | (intro _; repeat' (first | exact List.forall_mem_nil _ | trivial | refine List.forall_mem_cons.2 ⟨?_, ?_⟩)) | (intro _; simp [RV.flatP, CD.flatP]; done)) ?_ | refine CallAtG.mk _ (fun _ => g34 ..) ?_ | refine CallDS.mk _ (by simp [RV.data]) (fun _ => g34 ..) (by first | (intro h; cases h; done) | (intro _; repeat' (first | exact List.forall_mem_nil _ | trivial | refine List.forall_mem_cons.2 ⟨?_, ?_⟩)) | (intro _; simp [RV.flatP, CD.flatP]; done)) ?_ | refine CallAt.mk _ (g100 ..) (by first | (intro h; cases h; done) | (intro _; repeat' (first | exact List.forall_mem_nil _ | trivial | refine List.forall_mem_cons.2 ⟨?_, ?_⟩)) | (intro _; simp [RV.flatP, CD.flatP]; done)) ?_ | refine CallAtG.mk _ (fun _ => g100 ..) ?_ | refine CallDS.mk _ (by simp [RV.data]) (fun _ => g100 ..) (by first | (intro h; cases h; done) | (intro _; repeat' (first | exact List.forall_mem_nil _ | trivial | refine List.forall_mem_cons.2 ⟨?_, ?_⟩)) | (intro _; simp [RV.flatP, CD.flatP]; done)) ?_); try simp (disch := omega) only [go_sem, Nat.reduceLT, Nat.reduceAdd, Nat.reduceSub, Nat.reduceMul, Nat.reduceBEq, Nat.reduceEqDiff, Nat.reduceLeDiff, reduceCtorEq, ↓reduceIte, beq_dec, Int.reduceToNat, Int.reduceLT, Int.reduceLE, Int.reduceAdd, Int.reduceSub, Int.reduceMul, Int.reduceEq, Int.reduceNeg, Int.reduceNe, Int.toNat_natCast, IntKind.signed, IntKind.bits, Int.reducePow, Nat.reducePow]) | refine And.intro (fun hc => (?_ : AW _ _ _ _)) (fun hc => (?_ : AW _ _ _ _)) | simp (disch := omega) only [go_sem, Nat.reduceLT, Nat.reduceAdd, Nat.reduceSub, Nat.reduceMul, Nat.reduceBEq, Nat.reduceEqDiff, Nat.reduceLeDiff, reduceCtorEq, ↓reduceIte, beq_dec, Int.reduceToNat, Int.reduceLT, Int.reduceLE, Int.reduceAdd, Int.reduceSub, Int.reduceMul, Int.reduceEq, Int.reduceNeg, Int.reduceNe, Int.toNat_natCast, IntKind.signed, IntKind.bits, Int.reducePow, Nat.reducePow] | (refine And.intro ?_ ?_; focus (first | (intros; omega) | (intros; simp_all; done))) | refine And.intro (?_ : CallAt _ _ _ _ _ _ _ _) ?_ | fail))
/-! ### the law's copy -/
theorem w12 (t : List (List Int)) (ht : t.length ≤ 1000) (hr : ∀ i, i < t.length → (nth t i).length ≤ 1000) : FnR Try.prog 12 [.c (Tab t)] [OTab t] := by
  refine fn_walk code12 (by simp) ?_
  (repeat' (first | refine Sni.mk (fun hc => ?_) ?_ | refine AW_seq ?_ | refine AW_block ?_ | ((first | refine AW_reg ?_ | refine AW_cond ?_ | refine AW_skip ?_ | refine AW_exit ?_ | refine AW_ret ?_ | refine AW_regD (by kernel_rfl) ?_ | refine AW_regX (by kernel_rfl) ?_ | refine CallAtG.t (Eq.refl true) ?_ | refine CallAtG.f (Eq.refl false) ?_); try simp (disch := omega) only [go_sem, Nat.reduceLT, Nat.reduceAdd, Nat.reduceSub, Nat.reduceMul, Nat.reduceBEq, Nat.reduceEqDiff, Nat.reduceLeDiff, reduceCtorEq, ↓reduceIte, beq_dec, Int.reduceToNat, Int.reduceLT, Int.reduceLE, Int.reduceAdd, Int.reduceSub, Int.reduceMul, Int.reduceEq, Int.reduceNeg, Int.reduceNe, Int.toNat_natCast, IntKind.signed, IntKind.bits, Int.reducePow, Nat.reducePow]) | refine And.intro (fun hc => (?_ : AW _ _ _ _)) (fun hc => (?_ : AW _ _ _ _)) | simp (disch := omega) only [go_sem, Nat.reduceLT, Nat.reduceAdd, Nat.reduceSub, Nat.reduceMul, Nat.reduceBEq, Nat.reduceEqDiff, Nat.reduceLeDiff, reduceCtorEq, ↓reduceIte, beq_dec, Int.reduceToNat, Int.reduceLT, Int.reduceLE, Int.reduceAdd, Int.reduceSub, Int.reduceMul, Int.reduceEq, Int.reduceNeg, Int.reduceNe, Int.toNat_natCast, IntKind.signed, IntKind.bits, Int.reducePow, Nat.reducePow] | (refine And.intro ?_ ?_; focus (first | (intros; omega) | (intros; simp_all; done))) | refine And.intro (?_ : CallAt _ _ _ _ _ _ _ _) ?_ | fail))
  refine AW_nil 3 900 28 1 (by rfl) ?_
  refine AW_loopK [0] [3, 4, 5, 6, 7, 8, 9, 10, 11, 12, 13, 14, 15, 16, 17, 18, 19] (fun i : Nat => i ≤ t.length) (fun i => [(4, .I i), (3, .own 900)]) (fun i => [(900, .arr 28 1 ((t.take i).map fun r => [Row r]))]) (fun i => t.length - i) 0 (by omega) ?_ ?_
  · simp (disch := omega) only [go_sem, Nat.reduceLT, Nat.reduceAdd, Nat.reduceSub, Nat.reduceMul, Nat.reduceBEq, Nat.reduceEqDiff, Nat.reduceLeDiff, reduceCtorEq, ↓reduceIte, beq_dec, Int.reduceToNat, Int.reduceLT, Int.reduceLE, Int.reduceAdd, Int.reduceSub, Int.reduceMul, Int.reduceEq, Int.reduceNeg, Int.reduceNe, Int.toNat_natCast, IntKind.signed, IntKind.bits, Int.reducePow, Nat.reducePow, Int.natCast_zero, List.take_zero, List.map_nil]
  · rintro i hi
    have hri := hr i
    (repeat' (first | refine Sni.mk (fun hc => ?_) ?_ | refine AW_seq ?_ | refine AW_block ?_ | ((first | refine AW_reg ?_ | refine AW_cond ?_ | refine AW_skip ?_ | refine AW_exit ?_ | refine AW_ret ?_ | refine AW_regD (by kernel_rfl) ?_ | refine AW_regX (by kernel_rfl) ?_ | refine CallAtG.t (Eq.refl true) ?_ | refine CallAtG.f (Eq.refl false) ?_); try simp (disch := omega) only [go_sem, Nat.reduceLT, Nat.reduceAdd, Nat.reduceSub, Nat.reduceMul, Nat.reduceBEq, Nat.reduceEqDiff, Nat.reduceLeDiff, reduceCtorEq, ↓reduceIte, beq_dec, Int.reduceToNat, Int.reduceLT, Int.reduceLE, Int.reduceAdd, Int.reduceSub, Int.reduceMul, Int.reduceEq, Int.reduceNeg, Int.reduceNe, Int.toNat_natCast, IntKind.signed, IntKind.bits, Int.reducePow, Nat.reducePow, maxLen, getD_map (fun r : List Int => [Row r]), List.length_take, List.nil_append]) | refine And.intro (fun hc => (?_ : AW _ _ _ _)) (fun hc => (?_ : AW _ _ _ _)) | simp (disch := omega) only [go_sem, Nat.reduceLT, Nat.reduceAdd, Nat.reduceSub, Nat.reduceMul, Nat.reduceBEq, Nat.reduceEqDiff, Nat.reduceLeDiff, reduceCtorEq, ↓reduceIte, beq_dec, Int.reduceToNat, Int.reduceLT, Int.reduceLE, Int.reduceAdd, Int.reduceSub, Int.reduceMul, Int.reduceEq, Int.reduceNeg, Int.reduceNe, Int.toNat_natCast, IntKind.signed, IntKind.bits, Int.reducePow, Nat.reducePow, maxLen, getD_map (fun r : List Int => [Row r]), List.length_take, List.nil_append] | (refine And.intro ?_ ?_; focus (first | (intros; omega) | (intros; simp_all; done))) | refine And.intro (?_ : CallAt _ _ _ _ _ _ _ _) ?_ | fail))
    · refine .mk (i + 1) (by omega) (by omega) ?_
      have e : t.take (i + 1) = t.take i ++ [nth t i] := by rw [List.take_succ_eq_append_getElem (by omega), nth_eq t i (by omega)]
      simp (disch := omega) only [go_sem, Nat.reduceLT, Nat.reduceAdd, Nat.reduceSub, Nat.reduceMul, Nat.reduceBEq, Nat.reduceEqDiff, Nat.reduceLeDiff, reduceCtorEq, ↓reduceIte, beq_dec, Int.reduceToNat, Int.reduceLT, Int.reduceLE, Int.reduceAdd, Int.reduceSub, Int.reduceMul, Int.reduceEq, Int.reduceNeg, Int.reduceNe, Int.toNat_natCast, IntKind.signed, IntKind.bits, Int.reducePow, Nat.reducePow, Int.natCast_add, Int.natCast_one, e, List.map_append]
    · rw [show i = t.length by omega, List.take_length]
end Go.Proofs.Ytebmhidhimgfiaa

