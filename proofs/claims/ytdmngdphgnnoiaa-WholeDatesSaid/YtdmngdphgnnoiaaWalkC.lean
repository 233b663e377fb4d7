/-
  Lemmas for the proof: no statement of its own.
-/
import Derived.Test.YtdmngdphgnnoiaaAlD
import Derived.Test.YtdmngdphgnnoiaaWalkB
set_option linter.unusedVariables false
set_option linter.unusedSimpArgs false
open Go Go.AL Go.RowKit
namespace Go.Proofs.Ytdmngdphgnnoiaa
set_option maxRecDepth 20000
/- coinage/dating.solve -/
abbrev c27_1 : AC := .reg [⟨(some 1), .box 26 (some 3) (.t 0), none⟩,
  ⟨(some 2), .mv (.k (.c .nil)), none⟩,
  ⟨(some 3), .mv (.k (.B false)), none⟩] false
abbrev c27_2 : AC := .reg [⟨(some 20), .fad 0 (.t 1), none⟩,
  ⟨(some 21), .ld none (.t 20), none⟩,
  ⟨(some 22), .len (.t 21), none⟩,
  ⟨(some 23), .bin .add (.k (.I 1)) (.t 22), none⟩,
  ⟨(some 24), .fad 1 (.t 1), none⟩,
  ⟨(some 25), .ld none (.t 24), none⟩,
  ⟨(some 26), .len (.t 25), none⟩,
  ⟨(some 27), .bin .add (.t 23) (.t 26), none⟩,
  ⟨(some 4), .mv (.t 27), none⟩] false
abbrev c27_3 : AC := .reg [⟨(some 28), .mv (.t 4), none⟩,
  ⟨(some 29), .mks 43 1 24 [.nil] (.t 28) (.t 28), none⟩,
  ⟨(some 5), .mv (.t 29), none⟩] false
abbrev c27_4 : AC := .reg [⟨(some 30), .mv (.t 5), none⟩,
  ⟨(some 31), .len (.t 30), none⟩,
  ⟨(some 32), .mv (.k (.I 0)), none⟩] false
abbrev c27_5 : AC := .reg [⟨(some 33), .bin .lss (.t 32) (.t 31), none⟩] false
abbrev c27_6 : AC := .cond (.t 33) .skip (.exit 0)
abbrev c27_7 : AC := .reg [⟨(some 34), .mv (.t 32), none⟩,
  ⟨(some 6), .mv (.t 34), none⟩] false
abbrev c27_8 : AC := .reg [⟨(some 35), .mv (.t 5), none⟩,
  ⟨(some 36), .mv (.t 6), none⟩,
  ⟨(some 37), .bslice 3 1 [(.k (.I 1099511627776))], none⟩,
  ⟨(some 38), .mv (.t 4), none⟩,
  ⟨(some 39), .call 42 [(.t 37), (.t 38)], none⟩,
  ⟨(some 40), .iad 1 (.t 35) (.t 36), none⟩,
  ⟨none, .st none (.t 40) (.t 39), none⟩] false
abbrev c27_9 : AC := .reg [⟨(some 41), .mv (.t 5), none⟩,
  ⟨(some 42), .mv (.t 6), none⟩,
  ⟨(some 43), .iad 1 (.t 41) (.t 42), none⟩,
  ⟨(some 44), .ld none (.t 43), none⟩,
  ⟨(some 45), .mv (.t 6), none⟩,
  ⟨(some 46), .iad 1 (.t 44) (.t 45), none⟩,
  ⟨none, .st none (.t 46) (.k (.I 0)), none⟩] false
abbrev c27_10 : AC := .seq c27_8 c27_9
abbrev c27_11 : AC := .seq c27_7 c27_10
abbrev c27_12 : AC := .block 1 c27_11
abbrev c27_13 : AC := .reg [⟨(some 47), .bin .add (.t 32) (.k (.I 1)), none⟩,
  ⟨(some 32), .mv (.t 47), none⟩] false
abbrev c27_14 : AC := .seq c27_12 c27_13
abbrev c27_15 : AC := .seq c27_6 c27_14
abbrev c27_16 : AC := .seq c27_5 c27_15
abbrev c27_17 : AC := .loop c27_16
abbrev c27_18 : AC := .block 0 c27_17
abbrev c27_19 : AC := .seq c27_4 c27_18
abbrev c27_20 : AC := .reg [⟨(some 48), .fad 0 (.t 1), none⟩,
  ⟨(some 49), .ld none (.t 48), none⟩,
  ⟨(some 50), .len (.t 49), none⟩,
  ⟨(some 51), .mv (.k (.I 0)), none⟩] false
abbrev c27_21 : AC := .reg [⟨(some 52), .bin .lss (.t 51) (.t 50), none⟩] false
abbrev c27_22 : AC := .cond (.t 52) .skip (.exit 2)
abbrev c27_23 : AC := .reg [⟨(some 53), .mv (.t 51), none⟩,
  ⟨(some 54), .iad 2 (.t 49) (.t 51), none⟩,
  ⟨(some 55), .ld (some 2) (.t 54), none⟩,
  ⟨(some 8), .alloc 32 [(.I 0), (.I 0)], none⟩,
  ⟨(some 7), .mv (.t 53), none⟩,
  ⟨none, .st (some 2) (.t 8) (.t 55), none⟩] false
abbrev c27_24 : AC := .reg [⟨(some 56), .mv (.t 5), none⟩,
  ⟨(some 57), .mv (.t 7), none⟩,
  ⟨(some 58), .bin .add (.k (.I 1)) (.t 57), none⟩,
  ⟨(some 59), .fad 1 (.t 8), none⟩,
  ⟨(some 60), .ld none (.t 59), none⟩,
  ⟨(some 61), .call 43 [(.t 56), (.k (.I 0)), (.t 58), (.t 60)], none⟩] false
abbrev c27_25 : AC := .reg [⟨(some 62), .mv (.t 5), none⟩,
  ⟨(some 63), .mv (.t 7), none⟩,
  ⟨(some 64), .bin .add (.k (.I 1)) (.t 63), none⟩,
  ⟨(some 65), .fad 0 (.t 8), none⟩,
  ⟨(some 66), .ld none (.t 65), none⟩,
  ⟨(some 67), .neg (.t 66), none⟩,
  ⟨(some 68), .call 43 [(.t 62), (.t 64), (.k (.I 0)), (.t 67)], none⟩] false
abbrev c27_26 : AC := .seq c27_24 c27_25
abbrev c27_27 : AC := .seq c27_23 c27_26
abbrev c27_28 : AC := .block 3 c27_27
abbrev c27_29 : AC := .reg [⟨(some 69), .bin .add (.t 51) (.k (.I 1)), none⟩,
  ⟨(some 51), .mv (.t 69), none⟩] false
abbrev c27_30 : AC := .seq c27_28 c27_29
abbrev c27_31 : AC := .seq c27_22 c27_30
abbrev c27_32 : AC := .seq c27_21 c27_31
abbrev c27_33 : AC := .loop c27_32
abbrev c27_34 : AC := .block 2 c27_33
abbrev c27_35 : AC := .seq c27_20 c27_34
abbrev c27_36 : AC := .reg [⟨(some 70), .fad 1 (.t 1), none⟩,
  ⟨(some 71), .ld none (.t 70), none⟩,
  ⟨(some 72), .len (.t 71), none⟩,
  ⟨(some 73), .mv (.k (.I 0)), none⟩] false
abbrev c27_37 : AC := .reg [⟨(some 74), .bin .lss (.t 73) (.t 72), none⟩] false
abbrev c27_38 : AC := .cond (.t 74) .skip (.exit 4)
abbrev c27_39 : AC := .reg [⟨(some 75), .mv (.t 73), none⟩,
  ⟨(some 76), .iad 4 (.t 71) (.t 73), none⟩,
  ⟨(some 77), .ld (some 4) (.t 76), none⟩,
  ⟨(some 10), .alloc 34 [(.I 0), (.c .nil), (.I 0), (.I 0)], none⟩,
  ⟨(some 9), .mv (.t 75), none⟩,
  ⟨none, .st (some 4) (.t 10) (.t 77), none⟩] false
abbrev c27_40 : AC := .reg [⟨(some 78), .fad 0 (.t 1), none⟩,
  ⟨(some 79), .ld none (.t 78), none⟩,
  ⟨(some 80), .len (.t 79), none⟩,
  ⟨(some 81), .bin .add (.k (.I 1)) (.t 80), none⟩,
  ⟨(some 82), .mv (.t 9), none⟩,
  ⟨(some 83), .bin .add (.t 81) (.t 82), none⟩,
  ⟨(some 11), .mv (.t 83), none⟩] false
abbrev c27_41 : AC := .reg [⟨(some 84), .mv (.t 5), none⟩,
  ⟨(some 85), .mv (.t 11), none⟩,
  ⟨(some 86), .fad 2 (.t 10), none⟩,
  ⟨(some 87), .fad 1 (.t 86), none⟩,
  ⟨(some 88), .ld none (.t 87), none⟩,
  ⟨(some 89), .call 43 [(.t 84), (.k (.I 0)), (.t 85), (.t 88)], none⟩] false
abbrev c27_42 : AC := .reg [⟨(some 90), .mv (.t 5), none⟩,
  ⟨(some 91), .mv (.t 11), none⟩,
  ⟨(some 92), .fad 2 (.t 10), none⟩,
  ⟨(some 93), .fad 0 (.t 92), none⟩,
  ⟨(some 94), .ld none (.t 93), none⟩,
  ⟨(some 95), .neg (.t 94), none⟩,
  ⟨(some 96), .call 43 [(.t 90), (.t 91), (.k (.I 0)), (.t 95)], none⟩] false
abbrev c27_43 : AC := .reg [⟨(some 97), .fad 1 (.t 10), none⟩,
  ⟨(some 98), .ld none (.t 97), none⟩,
  ⟨(some 99), .len (.t 98), none⟩,
  ⟨(some 100), .mv (.k (.I 0)), none⟩] false
abbrev c27_44 : AC := .reg [⟨(some 101), .bin .lss (.t 100) (.t 99), none⟩] false
abbrev c27_45 : AC := .cond (.t 101) .skip (.exit 6)
abbrev c27_46 : AC := .reg [⟨(some 102), .iad 2 (.t 98) (.t 100), none⟩,
  ⟨(some 103), .ld (some 2) (.t 102), none⟩,
  ⟨(some 13), .alloc 36 [(.I 0), (.I 0)], none⟩,
  ⟨none, .st (some 2) (.t 13) (.t 103), none⟩] false
abbrev c27_47 : AC := .reg [⟨(some 104), .mv (.t 5), none⟩,
  ⟨(some 105), .mv (.t 11), none⟩,
  ⟨(some 106), .fad 0 (.t 13), none⟩,
  ⟨(some 107), .ld none (.t 106), none⟩,
  ⟨(some 108), .call 43 [(.t 104), (.t 105), (.t 107), (.k (.I 0))], none⟩] false
abbrev c27_48 : AC := .seq c27_46 c27_47
abbrev c27_49 : AC := .block 7 c27_48
abbrev c27_50 : AC := .reg [⟨(some 109), .bin .add (.t 100) (.k (.I 1)), none⟩,
  ⟨(some 100), .mv (.t 109), none⟩] false
abbrev c27_51 : AC := .seq c27_49 c27_50
abbrev c27_52 : AC := .seq c27_45 c27_51
abbrev c27_53 : AC := .seq c27_44 c27_52
abbrev c27_54 : AC := .loop c27_53
abbrev c27_55 : AC := .block 6 c27_54
abbrev c27_56 : AC := .seq c27_43 c27_55
abbrev c27_57 : AC := .seq c27_42 c27_56
abbrev c27_58 : AC := .seq c27_41 c27_57
abbrev c27_59 : AC := .seq c27_40 c27_58
abbrev c27_60 : AC := .seq c27_39 c27_59
abbrev c27_61 : AC := .block 5 c27_60
abbrev c27_62 : AC := .reg [⟨(some 110), .bin .add (.t 73) (.k (.I 1)), none⟩,
  ⟨(some 73), .mv (.t 110), none⟩] false
abbrev c27_63 : AC := .seq c27_61 c27_62
abbrev c27_64 : AC := .seq c27_38 c27_63
abbrev c27_65 : AC := .seq c27_37 c27_64
abbrev c27_66 : AC := .loop c27_65
abbrev c27_67 : AC := .block 4 c27_66
abbrev c27_68 : AC := .seq c27_36 c27_67
abbrev c27_69 : AC := .reg [⟨(some 111), .fad 2 (.t 1), none⟩,
  ⟨(some 112), .ld none (.t 111), none⟩,
  ⟨(some 113), .len (.t 112), none⟩,
  ⟨(some 114), .mv (.k (.I 0)), none⟩] false
abbrev c27_70 : AC := .reg [⟨(some 115), .bin .lss (.t 114) (.t 113), none⟩] false
abbrev c27_71 : AC := .cond (.t 115) .skip (.exit 8)
abbrev c27_72 : AC := .reg [⟨(some 116), .iad 3 (.t 112) (.t 114), none⟩,
  ⟨(some 117), .ld (some 3) (.t 116), none⟩,
  ⟨(some 15), .alloc 55 [(.I 0), (.I 0), (.I 0)], none⟩,
  ⟨none, .st (some 3) (.t 15) (.t 117), none⟩] false
abbrev c27_73 : AC := .reg [⟨(some 118), .mv (.t 5), none⟩,
  ⟨(some 119), .fad 0 (.t 15), none⟩,
  ⟨(some 120), .ld none (.t 119), none⟩,
  ⟨(some 121), .fad 1 (.t 15), none⟩,
  ⟨(some 122), .ld none (.t 121), none⟩,
  ⟨(some 123), .fad 2 (.t 15), none⟩,
  ⟨(some 124), .ld none (.t 123), none⟩,
  ⟨(some 125), .call 43 [(.t 118), (.t 120), (.t 122), (.t 124)], none⟩] false
abbrev c27_74 : AC := .seq c27_72 c27_73
abbrev c27_75 : AC := .block 9 c27_74
abbrev c27_76 : AC := .reg [⟨(some 126), .bin .add (.t 114) (.k (.I 1)), none⟩,
  ⟨(some 114), .mv (.t 126), none⟩] false
abbrev c27_77 : AC := .seq c27_75 c27_76
abbrev c27_78 : AC := .seq c27_71 c27_77
abbrev c27_79 : AC := .seq c27_70 c27_78
abbrev c27_80 : AC := .loop c27_79
abbrev c27_81 : AC := .block 8 c27_80
abbrev c27_82 : AC := .seq c27_69 c27_81
abbrev c27_83 : AC := .reg [⟨(some 127), .mv (.t 5), none⟩,
  ⟨(some 128), .len (.t 127), none⟩,
  ⟨(some 129), .mv (.k (.I 0)), none⟩] false
abbrev c27_84 : AC := .reg [⟨(some 130), .bin .lss (.t 129) (.t 128), none⟩] false
abbrev c27_85 : AC := .cond (.t 130) .skip (.exit 10)
abbrev c27_86 : AC := .reg [⟨(some 131), .mv (.t 129), none⟩,
  ⟨(some 16), .mv (.t 131), none⟩] false
abbrev c27_87 : AC := .reg [⟨(some 132), .mv (.t 5), none⟩,
  ⟨(some 133), .len (.t 132), none⟩,
  ⟨(some 134), .mv (.k (.I 0)), none⟩] false
abbrev c27_88 : AC := .reg [⟨(some 135), .bin .lss (.t 134) (.t 133), none⟩] false
abbrev c27_89 : AC := .cond (.t 135) .skip (.exit 12)
abbrev c27_90 : AC := .reg [⟨(some 136), .mv (.t 134), none⟩,
  ⟨(some 17), .mv (.t 136), none⟩] false
abbrev c27_91 : AC := .reg [⟨(some 137), .mv (.t 5), none⟩,
  ⟨(some 138), .len (.t 137), none⟩,
  ⟨(some 139), .mv (.k (.I 0)), none⟩] false
abbrev c27_92 : AC := .reg [⟨(some 140), .bin .lss (.t 139) (.t 138), none⟩] false
abbrev c27_93 : AC := .cond (.t 140) .skip (.exit 14)
abbrev c27_94 : AC := .reg [⟨(some 141), .mv (.t 139), none⟩,
  ⟨(some 18), .mv (.t 141), none⟩] false
abbrev c27_95 : AC := .regD [(⟨(some 142), .mv (.t 5), none⟩, [5]),
  (⟨(some 143), .mv (.t 17), none⟩, [17]),
  (⟨(some 144), .mv (.t 18), none⟩, [18]),
  (⟨(some 145), .mv (.t 5), none⟩, [5]),
  (⟨(some 146), .mv (.t 17), none⟩, [17]),
  (⟨(some 147), .iad 1 (.t 145) (.t 146), none⟩, [145, 146]),
  (⟨(some 148), .ld none (.t 147), none⟩, [147]),
  (⟨(some 149), .mv (.t 16), none⟩, [16]),
  (⟨(some 150), .iad 1 (.t 148) (.t 149), none⟩, [148, 149]),
  (⟨(some 151), .ld none (.t 150), none⟩, [150]),
  (⟨(some 152), .mv (.t 5), none⟩, [5]),
  (⟨(some 153), .mv (.t 16), none⟩, [16]),
  (⟨(some 154), .iad 1 (.t 152) (.t 153), none⟩, [152, 153]),
  (⟨(some 155), .ld none (.t 154), none⟩, [154]),
  (⟨(some 156), .mv (.t 18), none⟩, [18]),
  (⟨(some 157), .iad 1 (.t 155) (.t 156), none⟩, [155, 156]),
  (⟨(some 158), .ld none (.t 157), none⟩, [157]),
  (⟨(some 159), .bin .add (.t 151) (.t 158), none⟩, [151, 158]),
  (⟨(some 160), .call 43 [(.t 142), (.t 143), (.t 144), (.t 159)], none⟩, [142, 143, 144, 159])]
abbrev c27_96 : AC := .seq c27_94 c27_95
abbrev c27_97 : AC := .block 15 c27_96
abbrev c27_98 : AC := .reg [⟨(some 161), .bin .add (.t 139) (.k (.I 1)), none⟩,
  ⟨(some 139), .mv (.t 161), none⟩] false
abbrev c27_99 : AC := .seq c27_97 c27_98
abbrev c27_100 : AC := .seq c27_93 c27_99
abbrev c27_101 : AC := .seq c27_92 c27_100
abbrev c27_102 : AC := .loop c27_101
abbrev c27_103 : AC := .block 14 c27_102
abbrev c27_104 : AC := .seq c27_91 c27_103
abbrev c27_105 : AC := .seq c27_90 c27_104
abbrev c27_106 : AC := .block 13 c27_105
abbrev c27_107 : AC := .reg [⟨(some 162), .bin .add (.t 134) (.k (.I 1)), none⟩,
  ⟨(some 134), .mv (.t 162), none⟩] false
abbrev c27_108 : AC := .seq c27_106 c27_107
abbrev c27_109 : AC := .seq c27_89 c27_108
abbrev c27_110 : AC := .seq c27_88 c27_109
abbrev c27_111 : AC := .loop c27_110
abbrev c27_112 : AC := .block 12 c27_111
abbrev c27_113 : AC := .seq c27_87 c27_112
abbrev c27_114 : AC := .seq c27_86 c27_113
abbrev c27_115 : AC := .block 11 c27_114
abbrev c27_116 : AC := .reg [⟨(some 163), .bin .add (.t 129) (.k (.I 1)), none⟩,
  ⟨(some 129), .mv (.t 163), none⟩] false
abbrev c27_117 : AC := .seq c27_115 c27_116
abbrev c27_118 : AC := .seq c27_85 c27_117
abbrev c27_119 : AC := .seq c27_84 c27_118
abbrev c27_120 : AC := .loop c27_119
abbrev c27_121 : AC := .block 10 c27_120
abbrev c27_122 : AC := .seq c27_83 c27_121
abbrev c27_123 : AC := .reg [⟨(some 164), .mv (.t 5), none⟩,
  ⟨(some 165), .len (.t 164), none⟩,
  ⟨(some 166), .mv (.k (.I 0)), none⟩] false
abbrev c27_124 : AC := .reg [⟨(some 167), .bin .lss (.t 166) (.t 165), none⟩] false
abbrev c27_125 : AC := .cond (.t 167) .skip (.exit 16)
abbrev c27_126 : AC := .reg [⟨(some 168), .mv (.t 166), none⟩,
  ⟨(some 19), .mv (.t 168), none⟩] false
abbrev c27_127 : AC := .reg [⟨(some 169), .mv (.t 5), none⟩,
  ⟨(some 170), .mv (.t 19), none⟩,
  ⟨(some 171), .iad 1 (.t 169) (.t 170), none⟩,
  ⟨(some 172), .ld none (.t 171), none⟩,
  ⟨(some 173), .mv (.t 19), none⟩,
  ⟨(some 174), .iad 1 (.t 172) (.t 173), none⟩,
  ⟨(some 175), .ld none (.t 174), none⟩,
  ⟨(some 176), .bin .lss (.t 175) (.k (.I 0)), none⟩] false
abbrev c27_128 : AC := .reg [⟨(some 2), .mv (.k (.c .nil)), none⟩,
  ⟨(some 3), .mv (.k (.B false)), none⟩] false
abbrev c27_129 : AC := .seq c27_128 .ret
abbrev c27_130 : AC := .cond (.t 176) c27_129 .skip
abbrev c27_131 : AC := .seq c27_127 c27_130
abbrev c27_132 : AC := .seq c27_126 c27_131
abbrev c27_133 : AC := .block 17 c27_132
abbrev c27_134 : AC := .reg [⟨(some 177), .bin .add (.t 166) (.k (.I 1)), none⟩,
  ⟨(some 166), .mv (.t 177), none⟩] false
abbrev c27_135 : AC := .seq c27_133 c27_134
abbrev c27_136 : AC := .seq c27_125 c27_135
abbrev c27_137 : AC := .seq c27_124 c27_136
abbrev c27_138 : AC := .loop c27_137
abbrev c27_139 : AC := .block 16 c27_138
abbrev c27_140 : AC := .seq c27_123 c27_139
abbrev c27_141 : AC := .reg [⟨(some 178), .mv (.t 5), none⟩,
  ⟨(some 2), .mv (.t 178), none⟩,
  ⟨(some 3), .mv (.k (.B true)), none⟩] false
abbrev c27_142 : AC := .seq c27_141 .ret
abbrev c27_143 : AC := .seq c27_140 c27_142
abbrev c27_144 : AC := .seq c27_122 c27_143
abbrev c27_145 : AC := .seq c27_82 c27_144
abbrev c27_146 : AC := .seq c27_68 c27_145
abbrev c27_147 : AC := .seq c27_35 c27_146
abbrev c27_148 : AC := .seq c27_19 c27_147
abbrev c27_149 : AC := .seq c27_3 c27_148
abbrev c27_150 : AC := .seq c27_2 c27_149
abbrev c27_151 : AC := .seq c27_1 c27_150
abbrev c27 : AC := c27_151
theorem code27 : fnCode Try.prog 27 = some (c27, [2, 3], 179) := by kernel_rfl
theorem h27_8 {Q : Exit → St → Prop} {σ : St} (h : Hold (AW Try.prog c27_8 Q σ)) : AW Try.prog c27_8 Q σ := h.out
theorem h27_13 {Q : Exit → St → Prop} {σ : St} (h : Hold (AW Try.prog c27_13 Q σ)) : AW Try.prog c27_13 Q σ := h.out
abbrev EE : Int := 1099511627776
def stS (c : Ch) (n : Nat) (m : Mx) : St := ⟨179, [(1, .ptr 1 0), (4, .I (n : Int)), (5, .own 29)], [(1, bx8 c), (29, .rows 43 3 1 (tabM n m) none none)]⟩
def rowsI (n i : Nat) : List (List (List CD)) := (List.range n).map fun a => if a < i then rowM n (baseM EE) a else []
theorem rowsI_len (n i : Nat) : (rowsI n i).length = n := by simp [rowsI]
theorem rowsI_set (n i : Nat) : (rowsI n i).set i (rowM n (baseM EE) i) = rowsI n (i + 1) := by
  unfold rowsI
  rw [map_range_set]
  refine List.map_congr_left fun a _ => ?_
  by_cases h : a = i
  · rw [if_pos h, if_pos (by omega), h]
  · rw [if_neg h]
    by_cases h2 : a < i
    · rw [if_pos h2, if_pos (by omega)]
    · rw [if_neg h2, if_neg (by omega)]
theorem rowsI_all (n : Nat) : rowsI n n = tabM n (baseM EE) := List.map_congr_left fun a ha => if_pos (List.mem_range.1 ha)
theorem rep_set (n i : Nat) : (List.replicate n [CD.I EE]).set i [CD.I 0] = rowM n (baseM EE) i := by
  have : List.replicate n [CD.I EE] = (List.range n).map fun _ => [CD.I EE] := by
    apply List.ext_getElem <;> simp
  rw [this, map_range_set]
  unfold rowM baseM
  refine List.map_congr_left fun b _ => ?_
  by_cases h : b = i
  · rw [if_pos h, if_pos h.symm]
  · rw [if_neg h, if_neg fun h' => h h'.symm]
theorem flat_rep (n : Nat) : (RV.own 3 1 (List.replicate n [CD.I EE])).flatP := by
  intro r hr d hd
  rw [(List.mem_replicate.1 hr).2] at hd
  simp at hd
  subst hd
  trivial
set_option maxHeartbeats 4000000 in
theorem p19 (c : Ch) (n : Nat) (hn : 1 ≤ n ∧ n ≤ 15) : AW Try.prog c27_19 (cutQ (stS c n (baseM EE))) ⟨179, [(1, .ptr 1 0), (4, .I (n : Int)), (5, .own 29)], [(1, bx8 c), (29, .arr 43 1 (List.replicate n [.nil]))]⟩ := by
  refine AW_toRows 29 3 1 (by rfl) (fun y hy => (List.mem_replicate.1 hy).2) ?_
  have hz : (List.replicate n [CD.nil]).map (fun _ => ([] : List (List CD))) = rowsI n 0 := by
    unfold rowsI
    apply List.ext_getElem <;> simp
  rw [hz]
  have hl0 := rowsI_len n 0
  (repeat' (first | refine Both.mk ?_ ?_ | ((first | refine aw ?_ | refine aD ?_ | refine aX ?_ | refine cT ?_ | refine cF ?_); try simp (disch := omega) only [go_sem, seval, reduceCtorEq, hl0]) | refine aI (fun hc => ?_) fun hc => ?_ | simp (disch := omega) only [go_sem, seval, reduceCtorEq, hl0] | refine aO ?_ | refine aA ?_ ?_ | fail))
  refine AW_loopK [1, 4, 5, 31] [6, 32, 33, 34, 35, 36, 37, 38, 39, 40, 41, 42, 43, 44, 45, 46, 47] (fun i : Nat => i ≤ n) (fun i => [(5, .own 29), (32, .I i)]) (fun i => [(1, bx8 c), (29, .rows 43 3 1 (rowsI n i) none none)]) (fun i => n - i) 0 (by omega) ?_ ?_
  · simp (disch := omega) only [go_sem, seval, reduceCtorEq, Int.natCast_zero]
  · intro i hi
    have hli := rowsI_len n i
    rcases Nat.lt_or_ge i n with hin | hin
    · have hkk : ((i : Int) < (n : Int)) = True := eq_true (by omega)
      have g := x42 EE (by decide) n (by omega)
      have hrl : (List.replicate n [CD.I EE]).length = n := by simp
      have hset := rowsI_set n i
      have hrs := rep_set n i
      (repeat' (first | (with_reducible refine h27_8 ?_) | refine Both.mk ?_ ?_ | ((first | refine aw ?_ | refine aD ?_ | refine aX ?_ | refine cT ?_ | refine cF ?_); try simp (disch := omega) only [go_sem, seval, reduceCtorEq, hkk, hli]) | refine aI (fun hc => ?_) fun hc => ?_ | simp (disch := omega) only [go_sem, seval, reduceCtorEq, hkk, hli] | refine aO ?_ | refine aA ?_ ?_ | fail))
      refine ⟨AW_out 29 901 i (by rfl) (by omega) ?_⟩
      have hgr : (List.replicate n [CD.I EE]).getD i [] = [CD.I EE] := by
        rw [List.getD_eq_getElem?_getD, List.getElem?_eq_getElem (by simpa using hin)]; simp
      have hrs' : (List.replicate n [CD.I EE]).set i [CD.sc (Value.int IntKind.i64 0)] = rowM n (baseM EE) i := hrs
      (repeat' (first | (with_reducible refine h27_13 ?_) | refine Both.mk ?_ ?_ | ((first | refine aw ?_ | refine aD ?_ | refine aX ?_ | refine cT ?_ | refine cF ?_ | refine CallAt.mk _ (g ..) (by first | (intro h; cases h; done) | (intro _; repeat' (first | exact List.forall_mem_nil _ | trivial | exact flat_rep _ | refine List.forall_mem_cons.2 ⟨?_, ?_⟩)) | (intro _; simp [RV.flatP, CD.flatP, hkk, hli, hrl, hgr, hrs', List.set_cons_zero, Int.toNat_natCast]; done)) ?_ | refine cG (g ..) ?_); try simp (disch := omega) only [go_sem, seval, reduceCtorEq, hkk, hli, hrl, hgr, hrs', List.set_cons_zero, Int.toNat_natCast]) | refine aI (fun hc => ?_) fun hc => ?_ | simp (disch := omega) only [go_sem, seval, reduceCtorEq, hkk, hli, hrl, hgr, hrs', List.set_cons_zero, Int.toNat_natCast] | refine aO ?_ | refine aC ?_ ?_ | refine aC' ?_ ?_ | refine aA ?_ ?_ | fail))
      refine ⟨AW_inn 29 39 i (by rfl) (by rfl) ?_⟩
      simp (disch := omega) only [go_sem, seval, reduceCtorEq, hset]
      (repeat' (first | refine Both.mk ?_ ?_ | ((first | refine aw ?_ | refine aD ?_ | refine aX ?_ | refine cT ?_ | refine cF ?_); try simp (disch := omega) only [go_sem, seval, reduceCtorEq]) | refine aI (fun hc => ?_) fun hc => ?_ | simp (disch := omega) only [go_sem, seval, reduceCtorEq] | refine aO ?_ | refine aA ?_ ?_ | fail))
      refine .mk (i + 1) (by omega) (by omega) ?_
      simp (disch := omega) only [go_sem, seval, reduceCtorEq, Int.natCast_add, Int.natCast_one]
    · obtain rfl : i = n := by omega
      have hkk : ((i : Int) < (i : Int)) = False := eq_false (by omega)
      rw [rowsI_all]
      (repeat' (first | refine Both.mk ?_ ?_ | ((first | refine aw ?_ | refine aD ?_ | refine aX ?_ | refine cT ?_ | refine cF ?_); try simp (disch := omega) only [go_sem, seval, reduceCtorEq, hkk, hli, stS]) | refine aI (fun hc => ?_) fun hc => ?_ | simp (disch := omega) only [go_sem, seval, reduceCtorEq, hkk, hli, stS] | refine aO ?_ | refine aA ?_ ?_ | fail))
end Go.Proofs.Ytdmngdphgnnoiaa

open Go Go.AL Go.RowKit
namespace Go.Proofs.Ytdmngdphgnnoiaa
set_option maxRecDepth 20000
theorem h27_24 {Q : Exit → St → Prop} {σ : St} (h : Hold (AW Try.prog c27_24 Q σ)) : AW Try.prog c27_24 Q σ := h.out
theorem h27_25 {Q : Exit → St → Prop} {σ : St} (h : Hold (AW Try.prog c27_25 Q σ)) : AW Try.prog c27_25 Q σ := h.out
theorem h27_29 {Q : Exit → St → Prop} {σ : St} (h : Hold (AW Try.prog c27_29 Q σ)) : AW Try.prog c27_29 Q σ := h.out
theorem h27_41 {Q : Exit → St → Prop} {σ : St} (h : Hold (AW Try.prog c27_41 Q σ)) : AW Try.prog c27_41 Q σ := h.out
theorem h27_42 {Q : Exit → St → Prop} {σ : St} (h : Hold (AW Try.prog c27_42 Q σ)) : AW Try.prog c27_42 Q σ := h.out
theorem h27_43 {Q : Exit → St → Prop} {σ : St} (h : Hold (AW Try.prog c27_43 Q σ)) : AW Try.prog c27_43 Q σ := h.out
theorem h27_47 {Q : Exit → St → Prop} {σ : St} (h : Hold (AW Try.prog c27_47 Q σ)) : AW Try.prog c27_47 Q σ := h.out
theorem h27_50 {Q : Exit → St → Prop} {σ : St} (h : Hold (AW Try.prog c27_50 Q σ)) : AW Try.prog c27_50 Q σ := h.out
theorem h27_73 {Q : Exit → St → Prop} {σ : St} (h : Hold (AW Try.prog c27_73 Q σ)) : AW Try.prog c27_73 Q σ := h.out
theorem h27_76 {Q : Exit → St → Prop} {σ : St} (h : Hold (AW Try.prog c27_76 Q σ)) : AW Try.prog c27_76 Q σ := h.out
def st2 (c : Ch) (n : Nat) (m : Mx) : St := ⟨179, [(1, .ptr 1 0), (5, .own 29)], [(1, bx8 c), (29, .rows 43 3 1 (tabM n m) none none)]⟩
theorem limSet (n : Nat) (m : Mx) (i j : Nat) (v : Int) : (tabM n m).set i (rowM n (updM m i j v) i) = tabM n (updM m i j v) := tabM_set fun a b h => updM_ne h
theorem inM_snoc2 (E : Int) (b : List Bd) (e f : Bd) : inM E (b ++ [e, f]) = updM (updM (inM E b) e.i e.j (min (inM E b e.i e.j) e.c)) f.i f.j (min (updM (inM E b) e.i e.j (min (inM E b e.i e.j) e.c) f.i f.j) f.c) := by
  unfold inM; rw [List.foldl_append]; rfl
def nV (c : Ch) : Nat := c.ty.length + 1 + c.ho.length
set_option maxHeartbeats 4000000 in
theorem p35 (c : Ch) (hv : vC c = true) : AW Try.prog c27_35 (cutQ (st2 c (nV c) (inM EE (bT c c.ty.length)))) (st2 c (nV c) (baseM EE)) := by
  have hl := vC_len hv
  have hn : nV c = c.ty.length + 1 + c.ho.length := rfl
  generalize nV c = n at *
  unfold st2
  (repeat' (first | refine Both.mk ?_ ?_ | ((first | refine aw ?_ | refine aD ?_ | refine aX ?_ | refine cT ?_ | refine cF ?_); try simp (disch := omega) only [go_sem, seval, reduceCtorEq, List.length_map]) | refine aI (fun hc => ?_) fun hc => ?_ | simp (disch := omega) only [go_sem, seval, reduceCtorEq, List.length_map] | refine aO ?_ | refine aA ?_ ?_ | fail))
  refine AW_loopK [1, 5, 49, 50] [7, 8, 51, 52, 53, 54, 55, 56, 57, 58, 59, 60, 61, 62, 63, 64, 65, 66, 67, 68, 69] (fun i : Nat => i ≤ c.ty.length) (fun i => [(5, .own 29), (51, .I i)]) (fun i => [(29, .rows 43 3 1 (tabM n (inM EE (bT c i))) none none)]) (fun i => c.ty.length - i) 0 (by omega) ?_ ?_
  · have : inM EE (bT c 0) = baseM EE := rfl
    rw [this]
    simp (disch := omega) only [go_sem, seval, reduceCtorEq, Int.natCast_zero]
  · intro i hi
    rcases Nat.lt_or_ge i c.ty.length with hil | hil
    · have hkk : ((i : Int) < (c.ty.length : Int)) = True := eq_true (by omega)
      have hge := getD_map yc c.ty i [] hil
      have hy := vC_ty hv hil
      have e1 := inM_snoc2 EE (bT c i) ⟨0, i + 1, (nth c.ty i).2⟩ ⟨i + 1, 0, -(nth c.ty i).1⟩
      have e2 : bT c (i + 1) = bT c i ++ [⟨0, i + 1, (nth c.ty i).2⟩, ⟨i + 1, 0, -(nth c.ty i).1⟩] := bT_succ c i
      rw [← e2] at e1
      dsimp only at e1
      generalize inM EE (bT c i) = m at *
      have g1 := x43t n m m 0 (i + 1) 0 (1 + (i : Int)) (nth c.ty i).2 rfl (by omega) (by omega) (by omega)
      have s1 := limSet n m 0 (i + 1) (min (m 0 (i + 1)) (nth c.ty i).2)
      have t1 := tabM_get (n := n) m (i := 0) (by omega)
      generalize hm1 : updM m 0 (i + 1) (min (m 0 (i + 1)) (nth c.ty i).2) = m1 at *
      have g2 := x43t n m1 m1 (i + 1) 0 (1 + (i : Int)) 0 (-(nth c.ty i).1) (by omega) rfl (by omega) (by omega)
      have s2 := limSet n m1 (i + 1) 0 (min (m1 (i + 1) 0) (-(nth c.ty i).1))
      have t2 := tabM_get (n := n) m1 (i := i + 1) (by omega)
      rw [← e1] at g2 s2
      (repeat' (first | (with_reducible refine h27_24 ?_) | refine Both.mk ?_ ?_ | ((first | refine aw ?_ | refine aD ?_ | refine aX ?_ | refine cT ?_ | refine cF ?_); try simp (disch := omega) only [go_sem, seval, reduceCtorEq, hkk, hge, yc, Int.toNat_natCast, List.length_map]) | refine aI (fun hc => ?_) fun hc => ?_ | simp (disch := omega) only [go_sem, seval, reduceCtorEq, hkk, hge, yc, Int.toNat_natCast, List.length_map] | refine aO ?_ | refine aA ?_ ?_ | fail))
      refine ⟨AW_out 29 901 0 (by rfl) (by rw [tabM_len]; omega) ?_⟩
      (repeat' (first | (with_reducible refine h27_25 ?_) | refine Both.mk ?_ ?_ | ((first | refine aw ?_ | refine aD ?_ | refine aX ?_ | refine CallAt.mkW (g1 ..) (by rfl) (by simp (disch := omega) only [go_sem, seval, reduceCtorEq, t1, tabM_len, mem_rowM]) (by rfl) (by rfl) (by first | (intro h; cases h; done) | (intro _; simp [RV.flatP, CD.flatP, flatOb, AO.flatP, t1, tabM_len, mem_rowM]; done)) ?_ | refine cT ?_ | refine cF ?_); try simp (disch := omega) only [go_sem, seval, reduceCtorEq, t1, tabM_len, mem_rowM]) | refine aI (fun hc => ?_) fun hc => ?_ | simp (disch := omega) only [go_sem, seval, reduceCtorEq, t1, tabM_len, mem_rowM] | refine aO ?_ | refine aA ?_ ?_ | fail))
      refine ⟨AW_inn 29 901 0 (by rfl) (by rfl) ?_⟩
      simp (disch := omega) only [go_sem, seval, reduceCtorEq, s1]
      refine AW_out 29 901 (i + 1) (by rfl) (by rw [tabM_len]; omega) ?_
      (repeat' (first | (with_reducible refine h27_29 ?_) | refine Both.mk ?_ ?_ | ((first | refine aw ?_ | refine aD ?_ | refine aX ?_ | refine CallAt.mkW (g2 ..) (by rfl) (by simp (disch := omega) only [go_sem, seval, reduceCtorEq, t2, tabM_len, mem_rowM, Int.zero_sub]) (by rfl) (by rfl) (by first | (intro h; cases h; done) | (intro _; simp [RV.flatP, CD.flatP, flatOb, AO.flatP, t2, tabM_len, mem_rowM, Int.zero_sub]; done)) ?_ | refine cT ?_ | refine cF ?_); try simp (disch := omega) only [go_sem, seval, reduceCtorEq, t2, tabM_len, mem_rowM, Int.zero_sub]) | refine aI (fun hc => ?_) fun hc => ?_ | simp (disch := omega) only [go_sem, seval, reduceCtorEq, t2, tabM_len, mem_rowM, Int.zero_sub] | refine aO ?_ | refine aA ?_ ?_ | fail))
      repeat' apply And.intro
      all_goals first | omega | skip
      refine ⟨AW_inn 29 901 (i + 1) (by rfl) (by rfl) ?_⟩
      simp (disch := omega) only [go_sem, seval, reduceCtorEq, s2]
      (repeat' (first | refine Both.mk ?_ ?_ | ((first | refine aw ?_ | refine aD ?_ | refine aX ?_ | refine cT ?_ | refine cF ?_); try simp (disch := omega) only [go_sem, seval, reduceCtorEq]) | refine aI (fun hc => ?_) fun hc => ?_ | simp (disch := omega) only [go_sem, seval, reduceCtorEq] | refine aO ?_ | refine aA ?_ ?_ | fail))
      refine .mk (i + 1) (by omega) (by omega) ?_
      simp (disch := omega) only [go_sem, seval, reduceCtorEq, Int.natCast_add, Int.natCast_one]
    · obtain rfl : i = c.ty.length := by omega
      have hkk : ((c.ty.length : Int) < (c.ty.length : Int)) = False := eq_false (by omega)
      (repeat' (first | refine Both.mk ?_ ?_ | ((first | refine aw ?_ | refine aD ?_ | refine aX ?_ | refine cT ?_ | refine cF ?_); try simp (disch := omega) only [go_sem, seval, reduceCtorEq, hkk, List.length_map]) | refine aI (fun hc => ?_) fun hc => ?_ | simp (disch := omega) only [go_sem, seval, reduceCtorEq, hkk, List.length_map] | refine aO ?_ | refine aA ?_ ?_ | fail))
end Go.Proofs.Ytdmngdphgnnoiaa

open Go Go.AL Go.RowKit
namespace Go.Proofs.Ytdmngdphgnnoiaa
set_option maxRecDepth 20000
set_option maxHeartbeats 4000000 in
theorem p68 (c : Ch) (hv : vC c = true) : AW Try.prog c27_68 (cutQ (st2 c (nV c) (inM EE (bT c c.ty.length ++ bH c c.ho.length)))) (st2 c (nV c) (inM EE (bT c c.ty.length))) := by
  have hl := vC_len hv
  have hn : nV c = c.ty.length + 1 + c.ho.length := rfl
  generalize nV c = n at *
  unfold st2
  (repeat' (first | refine Both.mk ?_ ?_ | ((first | refine aw ?_ | refine aD ?_ | refine aX ?_ | refine cT ?_ | refine cF ?_); try simp (disch := omega) only [go_sem, seval, reduceCtorEq, List.length_map]) | refine aI (fun hc => ?_) fun hc => ?_ | simp (disch := omega) only [go_sem, seval, reduceCtorEq, List.length_map] | refine aO ?_ | refine aA ?_ ?_ | fail))
  refine AW_loopK [1, 5, 71, 72] [9, 10, 11, 13, 73, 74, 75, 76, 77, 78, 79, 80, 81, 82, 83, 84, 85, 86, 87, 88, 89, 90, 91, 92, 93, 94, 95, 96, 97, 98, 99, 100, 101, 102, 103, 104, 105, 106, 107, 108, 109, 110] (fun i : Nat => i ≤ c.ho.length) (fun i => [(5, .own 29), (73, .I i)]) (fun i => [(29, .rows 43 3 1 (tabM n (inM EE (bT c c.ty.length ++ bH c i))) none none)]) (fun i => c.ho.length - i) 0 (by omega) ?_ ?_
  · have : bH c 0 = [] := rfl
    rw [this, List.append_nil]
    simp (disch := omega) only [go_sem, seval, reduceCtorEq, Int.natCast_zero]
  · intro i hi
    rcases Nat.lt_or_ge i c.ho.length with hil | hil
    · have hkk : ((i : Int) < (c.ho.length : Int)) = True := eq_true (by omega)
      have hge := getD_map hdc c.ho i [] hil
      obtain ⟨w1, _⟩ := vC_ho hv hil
      obtain ⟨_, _, _, w2⟩ := vH_iff.1 w1
      have w3 := vY_iff.1 w2
      have w4 := vC_coins hv hil
      have e1 := inM_snoc2 EE (bT c c.ty.length ++ bH c i) ⟨0, c.ty.length + 1 + i, (nth c.ho i).cl.2⟩ ⟨c.ty.length + 1 + i, 0, -(nth c.ho i).cl.1⟩
      have e2 : (bT c c.ty.length ++ bH c i) ++ [⟨0, c.ty.length + 1 + i, (nth c.ho i).cl.2⟩, ⟨c.ty.length + 1 + i, 0, -(nth c.ho i).cl.1⟩] = bT c c.ty.length ++ bH c i ++ hoB c i := rfl
      rw [e2] at e1
      dsimp only at e1
      have hnx : bT c c.ty.length ++ bH c (i + 1) = bT c c.ty.length ++ bH c i ++ hoB c i ++ coB c i (nth c.ho i).cs.length := by rw [bH_succ, ← List.append_assoc, ← List.append_assoc]
      generalize hB : bT c c.ty.length ++ bH c i ++ hoB c i = B at *
      generalize inM EE (bT c c.ty.length ++ bH c i) = m at *
      have hk : (1 : Int) + (c.ty.length : Int) + (i : Int) = ((c.ty.length + 1 + i : Nat) : Int) := by omega
      have hkn : c.ty.length + 1 + i < n := by omega
      have hkr : c.ty.length + 1 ≤ c.ty.length + 1 + i := by omega
      generalize hK : c.ty.length + 1 + i = K at *
      have g1 := x43t n m m 0 K 0 (1 + (c.ty.length : Int) + (i : Int)) (nth c.ho i).cl.2 rfl hk (by omega) (by omega)
      have s1 := limSet n m 0 K (min (m 0 K) (nth c.ho i).cl.2)
      have t1 := tabM_get (n := n) m (i := 0) (by omega)
      generalize hm1 : updM m 0 K (min (m 0 K) (nth c.ho i).cl.2) = m1 at *
      have g2 := x43t n m1 m1 K 0 (1 + (c.ty.length : Int) + (i : Int)) 0 (-(nth c.ho i).cl.1) hk rfl (by omega) (by omega)
      have s2 := limSet n m1 K 0 (min (m1 K 0) (-(nth c.ho i).cl.1))
      have t2 := tabM_get (n := n) m1 (i := K) (by omega)
      rw [← e1] at g2 s2
      (repeat' (first | (with_reducible refine h27_41 ?_) | refine Both.mk ?_ ?_ | ((first | refine aw ?_ | refine aD ?_ | refine aX ?_ | refine cT ?_ | refine cF ?_); try simp (disch := omega) only [go_sem, seval, reduceCtorEq, hkk, hge, hdc, Int.toNat_natCast, List.length_map]) | refine aI (fun hc => ?_) fun hc => ?_ | simp (disch := omega) only [go_sem, seval, reduceCtorEq, hkk, hge, hdc, Int.toNat_natCast, List.length_map] | refine aO ?_ | refine aA ?_ ?_ | fail))
      all_goals first | omega | skip
      refine ⟨AW_out 29 901 0 (by rfl) (by rw [tabM_len]; omega) ?_⟩
      (repeat' (first | (with_reducible refine h27_42 ?_) | refine Both.mk ?_ ?_ | ((first | refine aw ?_ | refine aD ?_ | refine aX ?_ | refine CallAt.mkW (g1 ..) (by rfl) (by simp (disch := omega) only [go_sem, seval, reduceCtorEq, t1, tabM_len, mem_rowM]) (by rfl) (by rfl) (by first | (intro h; cases h; done) | (intro _; simp [RV.flatP, CD.flatP, flatOb, AO.flatP, t1, tabM_len, mem_rowM]; done)) ?_ | refine cT ?_ | refine cF ?_); try simp (disch := omega) only [go_sem, seval, reduceCtorEq, t1, tabM_len, mem_rowM]) | refine aI (fun hc => ?_) fun hc => ?_ | simp (disch := omega) only [go_sem, seval, reduceCtorEq, t1, tabM_len, mem_rowM] | refine aO ?_ | refine aA ?_ ?_ | fail))
      refine ⟨AW_inn 29 901 0 (by rfl) (by rfl) ?_⟩
      simp (disch := omega) only [go_sem, seval, reduceCtorEq, s1]
      refine AW_out 29 901 K (by rfl) (by rw [tabM_len]; omega) ?_
      (repeat' (first | (with_reducible refine h27_43 ?_) | refine Both.mk ?_ ?_ | ((first | refine aw ?_ | refine aD ?_ | refine aX ?_ | refine CallAt.mkW (g2 ..) (by rfl) (by simp (disch := omega) only [go_sem, seval, reduceCtorEq, t2, tabM_len, mem_rowM, Int.zero_sub]) (by rfl) (by rfl) (by first | (intro h; cases h; done) | (intro _; simp [RV.flatP, CD.flatP, flatOb, AO.flatP, t2, tabM_len, mem_rowM, Int.zero_sub]; done)) ?_ | refine cT ?_ | refine cF ?_); try simp (disch := omega) only [go_sem, seval, reduceCtorEq, t2, tabM_len, mem_rowM, Int.zero_sub]) | refine aI (fun hc => ?_) fun hc => ?_ | simp (disch := omega) only [go_sem, seval, reduceCtorEq, t2, tabM_len, mem_rowM, Int.zero_sub] | refine aO ?_ | refine aA ?_ ?_ | fail))
      repeat' apply And.intro
      all_goals first | omega | skip
      refine ⟨AW_inn 29 901 K (by rfl) (by rfl) ?_⟩
      simp (disch := omega) only [go_sem, seval, reduceCtorEq, s2]
      (repeat' (first | refine Both.mk ?_ ?_ | ((first | refine aw ?_ | refine aD ?_ | refine aX ?_ | refine cT ?_ | refine cF ?_); try simp (disch := omega) only [go_sem, seval, reduceCtorEq, List.length_map]) | refine aI (fun hc => ?_) fun hc => ?_ | simp (disch := omega) only [go_sem, seval, reduceCtorEq, List.length_map] | refine aO ?_ | refine aA ?_ ?_ | fail))
      refine AW_loopK [1, 5, 11, 71, 72, 73, 98, 99] [13, 100, 101, 102, 103, 104, 105, 106, 107, 108, 109] (fun k : Nat => k ≤ (nth c.ho i).cs.length) (fun k => [(5, .own 29), (100, .I k)]) (fun k => [(29, .rows 43 3 1 (tabM n (inM EE (B ++ coB c i k))) none none)]) (fun k => (nth c.ho i).cs.length - k) 0 (by omega) ?_ ?_
      · have : coB c i 0 = [] := rfl
        rw [this, List.append_nil]
        simp (disch := omega) only [go_sem, seval, reduceCtorEq, Int.natCast_zero]
      · intro k hk2
        rcases Nat.lt_or_ge k (nth c.ho i).cs.length with hkl | hkl
        · have hge2 := getD_map yc (nth c.ho i).cs k [] hkl
          have hkk2 : ((k : Int) < ((nth c.ho i).cs.length : Int)) = True := eq_true (by omega)
          have w5 := vC_key hv hil hkl
          have e3 := inM_snoc EE (B ++ coB c i k) ⟨K, (nth (nth c.ho i).cs k).1.toNat, 0⟩
          have e4 : coB c i (k + 1) = coB c i k ++ [⟨K, (nth (nth c.ho i).cs k).1.toNat, 0⟩] := by rw [coB_succ c i k hkl, hK]
          rw [List.append_assoc, ← e4] at e3
          dsimp only at e3
          generalize inM EE (B ++ coB c i k) = m2 at *
          have g3 := x43t n m2 m2 K (nth (nth c.ho i).cs k).1.toNat (1 + (c.ty.length : Int) + (i : Int)) (nth (nth c.ho i).cs k).1 0 hk (by omega) (by omega) (by omega)
          have s3 := limSet n m2 K (nth (nth c.ho i).cs k).1.toNat (min (m2 K (nth (nth c.ho i).cs k).1.toNat) 0)
          have t3 := tabM_get (n := n) m2 (i := K) (by omega)
          rw [← e3] at g3 s3
          (repeat' (first | (with_reducible refine h27_47 ?_) | refine Both.mk ?_ ?_ | ((first | refine aw ?_ | refine aD ?_ | refine aX ?_ | refine cT ?_ | refine cF ?_); try simp (disch := omega) only [go_sem, seval, reduceCtorEq, hkk2, hge2, yc, Int.toNat_natCast, List.length_map]) | refine aI (fun hc => ?_) fun hc => ?_ | simp (disch := omega) only [go_sem, seval, reduceCtorEq, hkk2, hge2, yc, Int.toNat_natCast, List.length_map] | refine aO ?_ | refine aA ?_ ?_ | fail))
          refine ⟨AW_out 29 901 K (by rfl) (by rw [tabM_len]; omega) ?_⟩
          (repeat' (first | (with_reducible refine h27_50 ?_) | refine Both.mk ?_ ?_ | ((first | refine aw ?_ | refine aD ?_ | refine aX ?_ | refine CallAt.mkW (g3 ..) (by rfl) (by simp (disch := omega) only [go_sem, seval, reduceCtorEq, t3, tabM_len, mem_rowM]) (by rfl) (by rfl) (by first | (intro h; cases h; done) | (intro _; simp [RV.flatP, CD.flatP, flatOb, AO.flatP, t3, tabM_len, mem_rowM]; done)) ?_ | refine cT ?_ | refine cF ?_); try simp (disch := omega) only [go_sem, seval, reduceCtorEq, t3, tabM_len, mem_rowM]) | refine aI (fun hc => ?_) fun hc => ?_ | simp (disch := omega) only [go_sem, seval, reduceCtorEq, t3, tabM_len, mem_rowM] | refine aO ?_ | refine aA ?_ ?_ | fail))
          refine ⟨AW_inn 29 901 K (by rfl) (by rfl) ?_⟩
          simp (disch := omega) only [go_sem, seval, reduceCtorEq, s3]
          (repeat' (first | refine Both.mk ?_ ?_ | ((first | refine aw ?_ | refine aD ?_ | refine aX ?_ | refine cT ?_ | refine cF ?_); try simp (disch := omega) only [go_sem, seval, reduceCtorEq]) | refine aI (fun hc => ?_) fun hc => ?_ | simp (disch := omega) only [go_sem, seval, reduceCtorEq] | refine aO ?_ | refine aA ?_ ?_ | fail))
          refine .mk (k + 1) (by omega) (by omega) ?_
          simp (disch := omega) only [go_sem, seval, reduceCtorEq, Int.natCast_add, Int.natCast_one]
        · obtain rfl : k = (nth c.ho i).cs.length := by omega
          have hkk2 : (((nth c.ho i).cs.length : Int) < ((nth c.ho i).cs.length : Int)) = False := eq_false (by omega)
          (repeat' (first | refine Both.mk ?_ ?_ | ((first | refine aw ?_ | refine aD ?_ | refine aX ?_ | refine cT ?_ | refine cF ?_); try simp (disch := omega) only [go_sem, seval, reduceCtorEq, List.length_map, hkk2]) | refine aI (fun hc => ?_) fun hc => ?_ | simp (disch := omega) only [go_sem, seval, reduceCtorEq, List.length_map, hkk2] | refine aO ?_ | refine aA ?_ ?_ | fail))
          refine .mk (i + 1) (by omega) (by omega) ?_
          rw [hnx]
          simp (disch := omega) only [go_sem, seval, reduceCtorEq, Int.natCast_add, Int.natCast_one]
    · obtain rfl : i = c.ho.length := by omega
      have hkk : ((c.ho.length : Int) < (c.ho.length : Int)) = False := eq_false (by omega)
      (repeat' (first | refine Both.mk ?_ ?_ | ((first | refine aw ?_ | refine aD ?_ | refine aX ?_ | refine cT ?_ | refine cF ?_); try simp (disch := omega) only [go_sem, seval, reduceCtorEq, hkk, List.length_map]) | refine aI (fun hc => ?_) fun hc => ?_ | simp (disch := omega) only [go_sem, seval, reduceCtorEq, hkk, List.length_map] | refine aO ?_ | refine aA ?_ ?_ | fail))
set_option maxHeartbeats 4000000 in
theorem p82 (c : Ch) (hv : vC c = true) : AW Try.prog c27_82 (cutQ (st2 c (nV c) (inM EE (bnd c)))) (st2 c (nV c) (inM EE (bT c c.ty.length ++ bH c c.ho.length))) := by
  have hl := vC_len hv
  have hn : nV c = c.ty.length + 1 + c.ho.length := rfl
  generalize nV c = n at *
  unfold bnd
  generalize bT c c.ty.length ++ bH c c.ho.length = B
  unfold st2
  (repeat' (first | refine Both.mk ?_ ?_ | ((first | refine aw ?_ | refine aD ?_ | refine aX ?_ | refine cT ?_ | refine cF ?_); try simp (disch := omega) only [go_sem, seval, reduceCtorEq, List.length_map]) | refine aI (fun hc => ?_) fun hc => ?_ | simp (disch := omega) only [go_sem, seval, reduceCtorEq, List.length_map] | refine aO ?_ | refine aA ?_ ?_ | fail))
  refine AW_loopK [5, 112, 113] [15, 114, 115, 116, 117, 118, 119, 120, 121, 122, 123, 124, 125, 126] (fun i : Nat => i ≤ c.ga.length) (fun i => [(1, .ptr 1 0), (5, .own 29), (114, .I i)]) (fun i => [(1, bx8 c), (29, .rows 43 3 1 (tabM n (inM EE (B ++ (c.ga.take i).map gB))) none none)]) (fun i => c.ga.length - i) 0 (by omega) ?_ ?_
  · rw [List.take_zero, List.map_nil, List.append_nil]
    simp (disch := omega) only [go_sem, seval, reduceCtorEq, Int.natCast_zero]
  · intro i hi
    rcases Nat.lt_or_ge i c.ga.length with hil | hil
    · have hkk : ((i : Int) < (c.ga.length : Int)) = True := eq_true (by omega)
      have hge := getD_map gpc c.ga i [] hil
      obtain ⟨b1, b2, b3, b4, b5, b6, b7⟩ := vC_ga hv hil
      have e1 := inM_snoc EE (B ++ (c.ga.take i).map gB) (gB (nth c.ga i))
      have e2 : (c.ga.take (i + 1)).map gB = (c.ga.take i).map gB ++ [gB (nth c.ga i)] := by
        rw [List.take_succ_eq_append_getElem hil, List.map_append, nth_eq _ i hil]; rfl
      rw [List.append_assoc, ← e2] at e1
      generalize inM EE (B ++ (c.ga.take i).map gB) = m at *
      have g1 := x43t n m m (gB (nth c.ga i)).i (gB (nth c.ga i)).j (nth c.ga i).i (nth c.ga i).j (nth c.ga i).c (by simp only [gB]; omega) (by simp only [gB]; omega) (by simp only [gB]; omega) (by simp only [gB]; omega)
      have s1 := limSet n m (gB (nth c.ga i)).i (gB (nth c.ga i)).j (min (m (gB (nth c.ga i)).i (gB (nth c.ga i)).j) (nth c.ga i).c)
      have hi1 : (gB (nth c.ga i)).i < n := by simp only [gB]; omega
      have t1 := tabM_get (n := n) m hi1
      have e3 : (gB (nth c.ga i)).c = (nth c.ga i).c := rfl
      rw [e3] at e1
      rw [← e1] at g1 s1
      generalize (gB (nth c.ga i)).i = I at *
      generalize (gB (nth c.ga i)).j = J at *
      (repeat' (first | (with_reducible refine h27_73 ?_) | refine Both.mk ?_ ?_ | ((first | refine aw ?_ | refine aD ?_ | refine aX ?_ | refine cT ?_ | refine cF ?_); try simp (disch := omega) only [go_sem, seval, reduceCtorEq, hkk, hge, gpc, Int.toNat_natCast, List.length_map]) | refine aI (fun hc => ?_) fun hc => ?_ | simp (disch := omega) only [go_sem, seval, reduceCtorEq, hkk, hge, gpc, Int.toNat_natCast, List.length_map] | refine aO ?_ | refine aA ?_ ?_ | fail))
      refine ⟨AW_out 29 901 I (by rfl) (by rw [tabM_len]; omega) ?_⟩
      (repeat' (first | (with_reducible refine h27_76 ?_) | refine Both.mk ?_ ?_ | ((first | refine aw ?_ | refine aD ?_ | refine aX ?_ | refine CallAt.mkW (g1 ..) (by rfl) (by simp (disch := omega) only [go_sem, seval, reduceCtorEq, t1, tabM_len, mem_rowM]) (by rfl) (by rfl) (by first | (intro h; cases h; done) | (intro _; simp [RV.flatP, CD.flatP, flatOb, AO.flatP, t1, tabM_len, mem_rowM]; done)) ?_ | refine cT ?_ | refine cF ?_); try simp (disch := omega) only [go_sem, seval, reduceCtorEq, t1, tabM_len, mem_rowM]) | refine aI (fun hc => ?_) fun hc => ?_ | simp (disch := omega) only [go_sem, seval, reduceCtorEq, t1, tabM_len, mem_rowM] | refine aO ?_ | refine aA ?_ ?_ | fail))
      refine ⟨AW_inn 29 901 I (by rfl) (by rfl) ?_⟩
      simp (disch := omega) only [go_sem, seval, reduceCtorEq, s1]
      (repeat' (first | refine Both.mk ?_ ?_ | ((first | refine aw ?_ | refine aD ?_ | refine aX ?_ | refine cT ?_ | refine cF ?_); try simp (disch := omega) only [go_sem, seval, reduceCtorEq]) | refine aI (fun hc => ?_) fun hc => ?_ | simp (disch := omega) only [go_sem, seval, reduceCtorEq] | refine aO ?_ | refine aA ?_ ?_ | fail))
      refine .mk (i + 1) (by omega) (by omega) ?_
      simp (disch := omega) only [go_sem, seval, reduceCtorEq, Int.natCast_add, Int.natCast_one]
    · obtain rfl : i = c.ga.length := by omega
      have hkk : ((c.ga.length : Int) < (c.ga.length : Int)) = False := eq_false (by omega)
      rw [List.take_length]
      (repeat' (first | refine Both.mk ?_ ?_ | ((first | refine aw ?_ | refine aD ?_ | refine aX ?_ | refine cT ?_ | refine cF ?_); try simp (disch := omega) only [go_sem, seval, reduceCtorEq, hkk, List.length_map]) | refine aI (fun hc => ?_) fun hc => ?_ | simp (disch := omega) only [go_sem, seval, reduceCtorEq, hkk, List.length_map] | refine aO ?_ | refine aA ?_ ?_ | fail))
end Go.Proofs.Ytdmngdphgnnoiaa

open Go Go.AL Go.RowKit
namespace Go.Proofs.Ytdmngdphgnnoiaa
set_option maxRecDepth 20000
theorem t27 {Q : Exit → St → Prop} {σ : St} (h : stepsD Try.prog (tailQ Try.prog Q [⟨(some 160), .call 43 [(.t 142), (.t 143), (.t 144), (.t 159)], none⟩]) [(⟨(some 142), .mv (.t 5), none⟩, [5]), (⟨(some 143), .mv (.t 17), none⟩, [17]), (⟨(some 144), .mv (.t 18), none⟩, [18]), (⟨(some 145), .mv (.t 5), none⟩, [5]), (⟨(some 146), .mv (.t 17), none⟩, [17]), (⟨(some 147), .iad 1 (.t 145) (.t 146), none⟩, [145, 146]), (⟨(some 148), .ld none (.t 147), none⟩, [147]), (⟨(some 149), .mv (.t 16), none⟩, [16]), (⟨(some 150), .iad 1 (.t 148) (.t 149), none⟩, [148, 149]), (⟨(some 151), .ld none (.t 150), none⟩, [150]), (⟨(some 152), .mv (.t 5), none⟩, [5]), (⟨(some 153), .mv (.t 16), none⟩, [16]), (⟨(some 154), .iad 1 (.t 152) (.t 153), none⟩, [152, 153]), (⟨(some 155), .ld none (.t 154), none⟩, [154]), (⟨(some 156), .mv (.t 18), none⟩, [18]), (⟨(some 157), .iad 1 (.t 155) (.t 156), none⟩, [155, 156]), (⟨(some 158), .ld none (.t 157), none⟩, [157]), (⟨(some 159), .bin .add (.t 151) (.t 158), none⟩, [151, 158])] σ) : AW Try.prog c27_95 Q σ := AW_regDT 18 (by kernel_rfl) (by decide) (by decide +kernel) h
def st3 (n : Nat) (m : Mx) : St := ⟨179, [(5, .own 29)], [(29, .rows 43 3 1 (tabM n m) none none)]⟩
theorem midM_ne (n : Nat) (m : Mx) (k i : Nat) {a : Nat} (h : a ≠ i) (b : Nat) : ∀ j, midM n m k i j a b = midM n m k i 0 a b
  | 0 => rfl
  | j + 1 => by
    rw [midM_j, ← midM_ne n m k i h b j]
    exact updM_ne h
theorem tab_out (n : Nat) (m : Mx) (k i : Nat) : (tabM n (midM n m k i 0)).set i (rowM n (midM n m k i n) i) = tabM n (midM n m k (i + 1) 0) := by
  rw [midM_i]
  exact tabM_set fun a b h => midM_ne n m k i h b n
theorem h27_107 {Q : Exit → St → Prop} {σ : St} (h : Hold (AW Try.prog c27_107 Q σ)) : AW Try.prog c27_107 Q σ := h.out
theorem tab_same {n : Nat} {m : Mx} {k : Nat} : (tabM n m).set k (rowM n m k) = tabM n m := tabM_set fun _ _ _ => rfl
set_option maxHeartbeats 8000000 in
theorem p122 (n : Nat) (hn : 1 ≤ n ∧ n ≤ 15) (m : Mx) (hlo : ∀ a b, -20000 ≤ m a b) (hhi : ∀ a b, m a b ≤ EE) : AW Try.prog c27_122 (cutQ (st3 n (rndF n m n))) (st3 n m) := by
  unfold st3
  (repeat' (first | refine Both.mk ?_ ?_ | ((first | refine aw ?_ | refine aD ?_ | refine aX ?_ | refine cT ?_ | refine cF ?_); try simp (disch := omega) only [go_sem, seval, reduceCtorEq, tabM_len]) | refine aI (fun hc => ?_) fun hc => ?_ | simp (disch := omega) only [go_sem, seval, reduceCtorEq, tabM_len] | refine aO ?_ | refine aA ?_ ?_ | fail))
  refine AW_loopK [5, 128] [16, 17, 18, 129, 130, 131, 132, 133, 134, 135, 136, 137, 138, 139, 140, 141, 142, 143, 144, 145, 146, 147, 148, 149, 150, 151, 152, 153, 154, 155, 156, 157, 158, 159, 160, 161, 162, 163] (fun k : Nat => k ≤ n) (fun k => [(5, .own 29), (129, .I k)]) (fun k => [(29, .rows 43 3 1 (tabM n (midM n m k 0 0)) none none)]) (fun k => n - k) 0 (by omega) ?_ ?_
  · have : midM n m 0 0 0 = m := rfl
    rw [this]
    simp (disch := omega) only [go_sem, seval, reduceCtorEq, Int.natCast_zero]
  · intro k hk
    rcases Nat.lt_or_ge k n with hkn | hkn
    · have hkk : ((k : Int) < (n : Int)) = True := eq_true (by omega)
      (repeat' (first | refine Both.mk ?_ ?_ | ((first | refine aw ?_ | refine aD ?_ | refine aX ?_ | refine cT ?_ | refine cF ?_); try simp (disch := omega) only [go_sem, seval, reduceCtorEq, hkk, tabM_len]) | refine aI (fun hc => ?_) fun hc => ?_ | simp (disch := omega) only [go_sem, seval, reduceCtorEq, hkk, tabM_len] | refine aO ?_ | refine aA ?_ ?_ | fail))
      refine AW_loopK [5, 16, 128, 129, 133] [17, 18, 134, 135, 136, 137, 138, 139, 140, 141, 142, 143, 144, 145, 146, 147, 148, 149, 150, 151, 152, 153, 154, 155, 156, 157, 158, 159, 160, 161, 162] (fun i : Nat => i ≤ n) (fun i => [(5, .own 29), (134, .I i)]) (fun i => [(29, .rows 43 3 1 (tabM n (midM n m k i 0)) none none)]) (fun i => n - i) 0 (by omega) ?_ ?_
      · simp (disch := omega) only [go_sem, seval, reduceCtorEq, Int.natCast_zero]
      · intro i hi
        rcases Nat.lt_or_ge i n with hin | hin
        · have hki : ((i : Int) < (n : Int)) = True := eq_true (by omega)
          have t1 := tabM_get (n := n) (midM n m k i 0) hin
          have s1 := tab_out n m k i
          (repeat' (first | refine Both.mk ?_ ?_ | ((first | refine aw ?_ | refine aD ?_ | refine aX ?_ | refine cT ?_ | refine cF ?_); try simp (disch := omega) only [go_sem, seval, reduceCtorEq, hki, tabM_len]) | refine aI (fun hc => ?_) fun hc => ?_ | simp (disch := omega) only [go_sem, seval, reduceCtorEq, hki, tabM_len] | refine aO ?_ | refine aA ?_ ?_ | fail))
          refine AW_out 29 901 i (by rfl) (by rw [tabM_len]; omega) ?_
          by_cases hik : i = k
          · subst hik
            refine AW_loopK [5, 16, 17, 128, 129, 133, 134, 138] [18, 139, 140, 141, 142, 143, 144, 145, 146, 147, 148, 149, 150, 151, 152, 153, 154, 155, 156, 157, 158, 159, 160, 161] (fun j : Nat => j ≤ n) (fun j => [(5, .own 29), (139, .I j)]) (fun j => [(29, .rows 43 3 1 (tabM n (midM n m i i 0)) (some i) (some 901)), (901, .arr 3 1 (rowM n (midM n m i i j) i))]) (fun j => n - j) 0 (by omega) ?_ ?_
            · simp (disch := omega) only [go_sem, seval, reduceCtorEq, Int.natCast_zero, t1]
            · intro j hj
              rcases Nat.lt_or_ge j n with hjn | hjn
              · have hkj : ((j : Int) < (n : Int)) = True := eq_true (by omega)
                have hlow := mid_low (n := n) hlo i i j
                have hB := lowB_le i (by omega)
                have hr1 := hlow.cl3 i
                have hr2 := hlow.rw3 j
                have hu1 := mid_le n m i i j i i
                have hu2 := mid_le n m i i j i j
                have hv1 : m i i ≤ 1099511627776 := hhi i i
                have hv2 : m i j ≤ 1099511627776 := hhi i j
                have ge1 := rowM_get (midM n m i i j) i hin
                have ge2 := rowM_get (midM n m i i j) i hjn
                have hl1 := rowM_len n (midM n m i i j) i
                have g := x43t n (midM n m i i j) (midM n m i i 0) i j i j (midM n m i i j i i + midM n m i i j i j) rfl rfl hin hjn
                have hst : updM (midM n m i i j) i j (min (midM n m i i j i j) (midM n m i i j i i + midM n m i i j i j)) = midM n m i i (j + 1) := by rw [midM_j]; rfl
                rw [hst] at g
                generalize hm' : midM n m i i (j + 1) = m' at *
                generalize midM n m i i j = mj at *
                generalize midM n m i i 0 = m0 at *
                (repeat' (first | (with_reducible refine t27 ?_; try simp (disch := omega) only [go_sem, seval, reduceCtorEq, hkj, hki, tabM_len, hl1, ge1, ge2, mem_rowM, Int.toNat_natCast]) | refine Both.mk ?_ ?_ | ((first | refine aw ?_ | refine aD ?_ | refine aX ?_ | refine CallAt.mkW (g ..) (by rfl) (by simp (disch := omega) only [go_sem, seval, reduceCtorEq, hkj, hki, tabM_len, hl1, ge1, ge2, mem_rowM, Int.toNat_natCast]) (by rfl) (by rfl) (by first | (intro h; cases h; done) | (intro _; simp [RV.flatP, CD.flatP, flatOb, AO.flatP, hkj, hki, tabM_len, hl1, ge1, ge2, mem_rowM, Int.toNat_natCast]; done)) ?_ | refine cT ?_ | refine cF ?_); try simp (disch := omega) only [go_sem, seval, reduceCtorEq, hkj, hki, tabM_len, hl1, ge1, ge2, mem_rowM, Int.toNat_natCast]) | refine aI (fun hc => ?_) fun hc => ?_ | simp (disch := omega) only [go_sem, seval, reduceCtorEq, hkj, hki, tabM_len, hl1, ge1, ge2, mem_rowM, Int.toNat_natCast] | refine aO ?_ | refine aA ?_ ?_ | fail))
                refine .mk (j + 1) (by omega) (by omega) ?_
                simp (disch := omega) only [go_sem, seval, reduceCtorEq, hm', Int.natCast_add, Int.natCast_one]
              · obtain rfl : j = n := by omega
                have hkj : ((j : Int) < (j : Int)) = False := eq_false (by omega)
                (repeat' (first | (with_reducible refine h27_107 ?_) | refine Both.mk ?_ ?_ | ((first | refine aw ?_ | refine aD ?_ | refine aX ?_ | refine cT ?_ | refine cF ?_); try simp (disch := omega) only [go_sem, seval, reduceCtorEq, hkj]) | refine aI (fun hc => ?_) fun hc => ?_ | simp (disch := omega) only [go_sem, seval, reduceCtorEq, hkj] | refine aO ?_ | refine aA ?_ ?_ | fail))
                refine ⟨AW_inn 29 901 i (by rfl) (by rfl) ?_⟩
                simp (disch := omega) only [go_sem, seval, reduceCtorEq, s1]
                (repeat' (first | refine Both.mk ?_ ?_ | ((first | refine aw ?_ | refine aD ?_ | refine aX ?_ | refine cT ?_ | refine cF ?_); try simp (disch := omega) only [go_sem, seval, reduceCtorEq]) | refine aI (fun hc => ?_) fun hc => ?_ | simp (disch := omega) only [go_sem, seval, reduceCtorEq] | refine aO ?_ | refine aA ?_ ?_ | fail))
                refine .mk (i + 1) (by omega) (by omega) ?_
                simp (disch := omega) only [go_sem, seval, reduceCtorEq, Int.natCast_add, Int.natCast_one]
          · have t2 := tabM_get (n := n) (midM n m k i 0) hkn
            have s2 := tab_same (n := n) (m := midM n m k i 0) (k := k)
            simp (disch := omega) only [go_sem, seval, reduceCtorEq]
            refine AW_out2 29 901 902 i k (by rfl) (by rw [tabM_len]; omega) hik ?_
            refine AW_loopK [5, 16, 17, 128, 129, 133, 134, 138] [18, 139, 140, 141, 142, 143, 144, 145, 146, 147, 148, 149, 150, 151, 152, 153, 154, 155, 156, 157, 158, 159, 160, 161] (fun j : Nat => j ≤ n) (fun j => [(5, .own 29), (139, .I j)]) (fun j => [(29, .rows2 43 3 1 (tabM n (midM n m k i 0)) i k (some 901) (some 902)), (901, .arr 3 1 (rowM n (midM n m k i j) i)), (902, .arr 3 1 (rowM n (midM n m k i 0) k))]) (fun j => n - j) 0 (by omega) ?_ ?_
            · simp (disch := omega) only [go_sem, seval, reduceCtorEq, Int.natCast_zero, t1, t2]
            · intro j hj
              rcases Nat.lt_or_ge j n with hjn | hjn
              · have hkj : ((j : Int) < (n : Int)) = True := eq_true (by omega)
                have hne := midM_ne n m k i (a := k) (fun h => hik h.symm) j j
                have hlow := mid_low (n := n) hlo k i j
                have hB := lowB_le k (by omega)
                have hr1 := hlow.cl3 i
                have hr2 := hlow.rw3 j
                have hu1 := mid_le n m k i j i k
                have hu2 := mid_le n m k i j k j
                have hv1 : m i k ≤ 1099511627776 := hhi i k
                have hv2 : m k j ≤ 1099511627776 := hhi k j
                rw [hne] at hr2 hu2
                have ge1 := rowM_get (midM n m k i j) i hkn
                have ge2 := rowM_get (midM n m k i 0) k hjn
                have hl1 := rowM_len n (midM n m k i j) i
                have hl2 := rowM_len n (midM n m k i 0) k
                have hdk : decide (k = i) = false := decide_eq_false fun h => hik h.symm
                have g := x43t n (midM n m k i j) (midM n m k i 0) i j i j (midM n m k i j i k + midM n m k i 0 k j) rfl rfl hin hjn
                have hst : updM (midM n m k i j) i j (min (midM n m k i j i j) (midM n m k i j i k + midM n m k i 0 k j)) = midM n m k i (j + 1) := by rw [midM_j, ← hne]; rfl
                rw [hst] at g
                generalize hm' : midM n m k i (j + 1) = m' at *
                generalize midM n m k i j = mj at *
                generalize midM n m k i 0 = m0 at *
                (repeat' (first | (with_reducible refine t27 ?_; try simp (disch := omega) only [go_sem, seval, reduceCtorEq, hkj, hki, hdk, tabM_len, hl1, hl2, ge1, ge2, mem_rowM, Int.toNat_natCast]) | refine Both.mk ?_ ?_ | ((first | refine aw ?_ | refine aD ?_ | refine aX ?_ | refine CallAt.mkW (g ..) (by rfl) (by simp (disch := omega) only [go_sem, seval, reduceCtorEq, hkj, hki, hdk, tabM_len, hl1, hl2, ge1, ge2, mem_rowM, Int.toNat_natCast]) (by rfl) (by rfl) (by first | (intro h; cases h; done) | (intro _; simp [RV.flatP, CD.flatP, flatOb, AO.flatP, hkj, hki, hdk, tabM_len, hl1, hl2, ge1, ge2, mem_rowM, Int.toNat_natCast]; done)) ?_ | refine cT ?_ | refine cF ?_); try simp (disch := omega) only [go_sem, seval, reduceCtorEq, hkj, hki, hdk, tabM_len, hl1, hl2, ge1, ge2, mem_rowM, Int.toNat_natCast]) | refine aI (fun hc => ?_) fun hc => ?_ | simp (disch := omega) only [go_sem, seval, reduceCtorEq, hkj, hki, hdk, tabM_len, hl1, hl2, ge1, ge2, mem_rowM, Int.toNat_natCast] | refine aO ?_ | refine aA ?_ ?_ | fail))
                refine .mk (j + 1) (by omega) (by omega) ?_
                simp (disch := omega) only [go_sem, seval, reduceCtorEq, hm', Int.natCast_add, Int.natCast_one]
              · obtain rfl : j = n := by omega
                have hkj : ((j : Int) < (j : Int)) = False := eq_false (by omega)
                (repeat' (first | (with_reducible refine h27_107 ?_) | refine Both.mk ?_ ?_ | ((first | refine aw ?_ | refine aD ?_ | refine aX ?_ | refine cT ?_ | refine cF ?_); try simp (disch := omega) only [go_sem, seval, reduceCtorEq, hkj]) | refine aI (fun hc => ?_) fun hc => ?_ | simp (disch := omega) only [go_sem, seval, reduceCtorEq, hkj] | refine aO ?_ | refine aA ?_ ?_ | fail))
                refine ⟨AW_inn2 29 901 902 i k (by rfl) (by rfl) ?_⟩
                simp (disch := omega) only [go_sem, seval, reduceCtorEq, s2]
                refine AW_inn 29 901 i (by rfl) (by rfl) ?_
                simp (disch := omega) only [go_sem, seval, reduceCtorEq, s1]
                (repeat' (first | refine Both.mk ?_ ?_ | ((first | refine aw ?_ | refine aD ?_ | refine aX ?_ | refine cT ?_ | refine cF ?_); try simp (disch := omega) only [go_sem, seval, reduceCtorEq]) | refine aI (fun hc => ?_) fun hc => ?_ | simp (disch := omega) only [go_sem, seval, reduceCtorEq] | refine aO ?_ | refine aA ?_ ?_ | fail))
                refine .mk (i + 1) (by omega) (by omega) ?_
                simp (disch := omega) only [go_sem, seval, reduceCtorEq, Int.natCast_add, Int.natCast_one]
        · obtain rfl : i = n := by omega
          have hki : ((i : Int) < (i : Int)) = False := eq_false (by omega)
          have e := midM_k i m k
          (repeat' (first | refine Both.mk ?_ ?_ | ((first | refine aw ?_ | refine aD ?_ | refine aX ?_ | refine cT ?_ | refine cF ?_); try simp (disch := omega) only [go_sem, seval, reduceCtorEq, hki]) | refine aI (fun hc => ?_) fun hc => ?_ | simp (disch := omega) only [go_sem, seval, reduceCtorEq, hki] | refine aO ?_ | refine aA ?_ ?_ | fail))
          refine .mk (k + 1) (by omega) (by omega) ?_
          rw [← e]
          simp (disch := omega) only [go_sem, seval, reduceCtorEq, Int.natCast_add, Int.natCast_one]
    · obtain rfl : k = n := by omega
      have hkk : ((k : Int) < (k : Int)) = False := eq_false (by omega)
      have e := midM_0 k m k
      rw [e]
      (repeat' (first | refine Both.mk ?_ ?_ | ((first | refine aw ?_ | refine aD ?_ | refine aX ?_ | refine cT ?_ | refine cF ?_); try simp (disch := omega) only [go_sem, seval, reduceCtorEq, hkk]) | refine aI (fun hc => ?_) fun hc => ?_ | simp (disch := omega) only [go_sem, seval, reduceCtorEq, hkk] | refine aO ?_ | refine aA ?_ ?_ | fail))
end Go.Proofs.Ytdmngdphgnnoiaa

open Go Go.AL Go.RowKit
namespace Go.Proofs.Ytdmngdphgnnoiaa
set_option maxRecDepth 20000
theorem h27_19 {Q : Exit → St → Prop} {σ : St} (h : Hold (AW Try.prog c27_19 Q σ)) : AW Try.prog c27_19 Q σ := h.out
theorem h27_35 {Q : Exit → St → Prop} {σ : St} (h : Hold (AW Try.prog c27_35 Q σ)) : AW Try.prog c27_35 Q σ := h.out
theorem h27_68 {Q : Exit → St → Prop} {σ : St} (h : Hold (AW Try.prog c27_68 Q σ)) : AW Try.prog c27_68 Q σ := h.out
theorem h27_82 {Q : Exit → St → Prop} {σ : St} (h : Hold (AW Try.prog c27_82 Q σ)) : AW Try.prog c27_82 Q σ := h.out
theorem h27_122 {Q : Exit → St → Prop} {σ : St} (h : Hold (AW Try.prog c27_122 Q σ)) : AW Try.prog c27_122 Q σ := h.out
theorem h27_140 {Q : Exit → St → Prop} {σ : St} (h : Hold (AW Try.prog c27_140 Q σ)) : AW Try.prog c27_140 Q σ := h.out
theorem bnd_in {c : Ch} (hv : vC c = true) : ∀ e ∈ bnd c, e.i < nV c ∧ e.j < nV c ∧ e.i ≠ e.j ∧ -20000 ≤ e.c ∧ e.c ≤ 20000 := by
  intro e he
  have hn : nV c = c.ty.length + 1 + c.ho.length := rfl
  unfold bnd at he
  rw [List.mem_append, List.mem_append] at he
  rcases he with (he | he) | he
  · unfold bT at he
    rw [List.mem_flatMap] at he
    obtain ⟨i, hi, he⟩ := he
    rw [List.mem_range] at hi
    have := vC_ty hv hi
    unfold tyB at he
    simp only [List.mem_cons, List.not_mem_nil, or_false] at he
    rcases he with rfl | rfl
    · dsimp only; omega
    · dsimp only; omega
  · unfold bH at he
    rw [List.mem_flatMap] at he
    obtain ⟨i, hi, he⟩ := he
    rw [List.mem_range] at hi
    obtain ⟨w1, _⟩ := vC_ho hv hi
    obtain ⟨_, _, _, w2⟩ := vH_iff.1 w1
    have w3 := vY_iff.1 w2
    rw [List.mem_append] at he
    rcases he with he | he
    · unfold hoB at he
      simp only [List.mem_cons, List.not_mem_nil, or_false] at he
      rcases he with rfl | rfl
      · dsimp only; omega
      · dsimp only; omega
    · unfold coB at he
      rw [List.take_length, List.mem_map] at he
      obtain ⟨x, hx, rfl⟩ := he
      obtain ⟨k, hk, rfl⟩ := List.getElem_of_mem hx
      have := vC_key hv hi hk
      rw [nth_eq _ k hk] at this
      dsimp only; omega
  · rw [List.mem_map] at he
    obtain ⟨g, hg, rfl⟩ := he
    obtain ⟨i, hi, rfl⟩ := List.getElem_of_mem hg
    have := vC_ga hv hi
    rw [nth_eq _ i hi] at this
    unfold gB
    dsimp only; omega
def dM (c : Ch) : Mx := rndF (nV c) (inM EE (bnd c)) (nV c)
def okD (c : Ch) : Bool := (List.range (nV c)).all fun i => decide (0 ≤ dM c i i)
def TL (n : Nat) (m : Mx) : List (List CD) := (tabM n m).map fun xs => [CD.sl 1 xs]
theorem TL_eq (n : Nat) (m : Mx) : rowsCD 1 (tabM n m) = .sl 1 (TL n m) := rfl
theorem TL_get {n : Nat} (m : Mx) {i : Nat} (h : i < n) : (TL n m).getD i [] = [.sl 1 (rowM n m i)] := by
  unfold TL
  rw [List.getD_eq_getElem?_getD, List.getElem?_eq_getElem (by rw [List.length_map, tabM_len]; exact h)]
  simp [tabM]
theorem TL_len (n : Nat) (m : Mx) : (TL n m).length = n := by simp [TL, tabM_len]
def resD (c : Ch) : List RV := if okD c then [.c (.sl 1 (TL (nV c) (dM c))), .c (.B true)] else [.c .nil, .c (.B false)]
set_option maxHeartbeats 4000000 in
theorem x27 (c : Ch) (hv : vC c = true) : FnR Try.prog 27 [chv c] (resD c) := by
  have hl := vC_len hv
  have hn : nV c = c.ty.length + 1 + c.ho.length := rfl
  have hin := bnd_in hv
  have q1 := p19 c (nV c) (by omega)
  have q2 := p35 c hv
  have q3 := p68 c hv
  have q4 := p82 c hv
  have q5 := p122 (nV c) (by omega) (inM EE (bnd c)) (inM_low (by decide) _ fun e he => (hin e he).2.2.2.1) fun a b => by
    have h1 := init_le_aux (bnd c) (baseM EE) a b
    refine Int.le_trans h1 ?_
    unfold baseM; split <;> decide
  have hd : rndF (nV c) (inM EE (bnd c)) (nV c) = dM c := rfl
  have hok : okD c = (List.range (nV c)).all fun i => decide (0 ≤ dM c i i) := rfl
  have hnn : (1 : Int) + (c.ty.length : Int) + (c.ho.length : Int) = (nV c : Int) := by omega
  have hnl : nV c ≤ 15 := by omega
  unfold resD
  rw [hd] at q5
  generalize dM c = D at *
  generalize okD c = OK at *
  refine fn_walk code27 (by simp) ?_
  (repeat' (first | (with_reducible refine h27_19 ?_) | refine Both.mk ?_ ?_ | ((first | refine aw ?_ | refine aD ?_ | refine aX ?_ | refine cT ?_ | refine cF ?_); try simp (disch := omega) only [go_sem, seval, reduceCtorEq, hnn, List.length_map, maxLen, Int.toNat_natCast]) | refine aI (fun hc => ?_) fun hc => ?_ | simp (disch := omega) only [go_sem, seval, reduceCtorEq, hnn, List.length_map, maxLen, Int.toNat_natCast] | refine aO ?_ | refine aA ?_ ?_ | fail))
  all_goals first | omega | skip
  refine ⟨AW_cut _ _ q1 ?_ ?_⟩
  · simp (disch := omega) only [go_sem, seval, reduceCtorEq]
  unfold stS
  (repeat' (first | (with_reducible refine h27_35 ?_) | refine Both.mk ?_ ?_ | ((first | refine aw ?_ | refine aD ?_ | refine aX ?_ | refine cT ?_ | refine cF ?_); try simp (disch := omega) only [go_sem, seval, reduceCtorEq]) | refine aI (fun hc => ?_) fun hc => ?_ | simp (disch := omega) only [go_sem, seval, reduceCtorEq] | refine aO ?_ | refine aA ?_ ?_ | fail))
  refine ⟨AW_cut _ _ q2 ?_ ?_⟩
  · unfold st2
    simp (disch := omega) only [go_sem, seval, reduceCtorEq]
  unfold st2
  (repeat' (first | (with_reducible refine h27_68 ?_) | refine Both.mk ?_ ?_ | ((first | refine aw ?_ | refine aD ?_ | refine aX ?_ | refine cT ?_ | refine cF ?_); try simp (disch := omega) only [go_sem, seval, reduceCtorEq]) | refine aI (fun hc => ?_) fun hc => ?_ | simp (disch := omega) only [go_sem, seval, reduceCtorEq] | refine aO ?_ | refine aA ?_ ?_ | fail))
  refine ⟨AW_cut _ _ q3 ?_ ?_⟩
  · unfold st2
    simp (disch := omega) only [go_sem, seval, reduceCtorEq]
  unfold st2
  (repeat' (first | (with_reducible refine h27_82 ?_) | refine Both.mk ?_ ?_ | ((first | refine aw ?_ | refine aD ?_ | refine aX ?_ | refine cT ?_ | refine cF ?_); try simp (disch := omega) only [go_sem, seval, reduceCtorEq]) | refine aI (fun hc => ?_) fun hc => ?_ | simp (disch := omega) only [go_sem, seval, reduceCtorEq] | refine aO ?_ | refine aA ?_ ?_ | fail))
  refine ⟨AW_cut _ _ q4 ?_ ?_⟩
  · unfold st2
    simp (disch := omega) only [go_sem, seval, reduceCtorEq]
  unfold st2
  (repeat' (first | (with_reducible refine h27_122 ?_) | refine Both.mk ?_ ?_ | ((first | refine aw ?_ | refine aD ?_ | refine aX ?_ | refine cT ?_ | refine cF ?_); try simp (disch := omega) only [go_sem, seval, reduceCtorEq]) | refine aI (fun hc => ?_) fun hc => ?_ | simp (disch := omega) only [go_sem, seval, reduceCtorEq] | refine aO ?_ | refine aA ?_ ?_ | fail))
  refine ⟨AW_cut _ _ q5 ?_ ?_⟩
  · unfold st3
    simp (disch := omega) only [go_sem, seval, reduceCtorEq]
  unfold st3
  (repeat' (first | (with_reducible refine h27_140 ?_) | refine Both.mk ?_ ?_ | ((first | refine aw ?_ | refine aD ?_ | refine aX ?_ | refine cT ?_ | refine cF ?_); try simp (disch := omega) only [go_sem, seval, reduceCtorEq]) | refine aI (fun hc => ?_) fun hc => ?_ | simp (disch := omega) only [go_sem, seval, reduceCtorEq] | refine aO ?_ | refine aA ?_ ?_ | fail))
  refine ⟨AW_frzR 29 (by rfl) ?_⟩
  rw [TL_eq]
  simp (disch := omega) only [go_sem, seval, reduceCtorEq, St.frzR]
  generalize nV c = n at *
  have hll := TL_len n D
  (repeat' (first | refine Both.mk ?_ ?_ | ((first | refine aw ?_ | refine aD ?_ | refine aX ?_ | refine cT ?_ | refine cF ?_); try simp (disch := omega) only [go_sem, seval, reduceCtorEq, hll]) | refine aI (fun hc => ?_) fun hc => ?_ | simp (disch := omega) only [go_sem, seval, reduceCtorEq, hll] | refine aO ?_ | refine aA ?_ ?_ | fail))
  refine AW_loopK [5, 165] [2, 3, 19, 166, 167, 168, 169, 170, 171, 172, 173, 174, 175, 176, 177] (fun i : Nat => i ≤ n ∧ ∀ k, k < i → 0 ≤ D k k) (fun i => [(5, .c (.sl 1 (TL n D))), (166, .I i)]) (fun _ => []) (fun i => n - i) 0 ⟨by omega, fun k hk => by omega⟩ ?_ ?_
  · simp (disch := omega) only [go_sem, seval, reduceCtorEq, Int.natCast_zero]
  · intro i hi
    obtain ⟨hi, hR⟩ := hi
    rcases Nat.lt_or_ge i n with hin | hin
    · have hkk : ((i : Int) < (n : Int)) = True := eq_true (by omega)
      have ge1 := TL_get D hin
      have ge2 := rowM_get D i hin
      have hl1 := rowM_len n D i
      by_cases h0 : 0 ≤ D i i
      · have h1 : (D i i < 0) = False := eq_false (by omega)
        (repeat' (first | refine Both.mk ?_ ?_ | ((first | refine aw ?_ | refine aD ?_ | refine aX ?_ | refine cT ?_ | refine cF ?_); try simp (disch := omega) only [go_sem, seval, reduceCtorEq, hkk, hll, ge1, ge2, hl1, h1, Int.toNat_natCast]) | refine aI (fun hc => ?_) fun hc => ?_ | simp (disch := omega) only [go_sem, seval, reduceCtorEq, hkk, hll, ge1, ge2, hl1, h1, Int.toNat_natCast] | refine aO ?_ | refine aA ?_ ?_ | fail))
        refine .mk (i + 1) ⟨by omega, fun k hk => ?_⟩ (by omega) ?_
        · rcases Nat.lt_succ_iff_lt_or_eq.1 hk with hk | rfl
          · exact hR k hk
          · exact h0
        · simp (disch := omega) only [go_sem, seval, reduceCtorEq, Int.natCast_add, Int.natCast_one]
      · have h1 : (D i i < 0) = True := eq_true (by omega)
        have hf : OK = false := by rw [hok]; exact all_no hin (decide_eq_false h0)
        rw [hf, if_neg (by decide)]
        (repeat' (first | refine Both.mk ?_ ?_ | ((first | refine aw ?_ | refine aD ?_ | refine aX ?_ | refine cT ?_ | refine cF ?_); try simp (disch := omega) only [go_sem, seval, reduceCtorEq, hkk, hll, ge1, ge2, hl1, h1, Int.toNat_natCast]) | refine aI (fun hc => ?_) fun hc => ?_ | simp (disch := omega) only [go_sem, seval, reduceCtorEq, hkk, hll, ge1, ge2, hl1, h1, Int.toNat_natCast] | refine aO ?_ | refine aA ?_ ?_ | fail))
    · obtain rfl : i = n := by omega
      have hkk : ((i : Int) < (i : Int)) = False := eq_false (by omega)
      have hf : OK = true := by rw [hok]; exact all_yes fun k hk => decide_eq_true (hR k hk)
      rw [hf, if_pos rfl]
      (repeat' (first | refine Both.mk ?_ ?_ | ((first | refine aw ?_ | refine aD ?_ | refine aX ?_ | refine cT ?_ | refine cF ?_); try simp (disch := omega) only [go_sem, seval, reduceCtorEq, hkk]) | refine aI (fun hc => ?_) fun hc => ?_ | simp (disch := omega) only [go_sem, seval, reduceCtorEq, hkk] | refine aO ?_ | refine aA ?_ ?_ | fail))
end Go.Proofs.Ytdmngdphgnnoiaa

open Go Go.AL Go.RowKit
namespace Go.Proofs.Ytdmngdphgnnoiaa
set_option maxRecDepth 20000
/- slices.Clone[[]coinage/api.Years,coinage/api.Years] -/
abbrev c28_1 : AC := .reg [⟨(some 2), .mv (.k (.c .nil)), none⟩] false
abbrev c28_2 : AC := .reg [⟨(some 3), .mv (.t 0), none⟩,
  ⟨(some 4), .isnil false (.t 3), none⟩] false
abbrev c28_3 : AC := .reg [⟨(some 2), .mv (.k (.c .nil)), none⟩] false
abbrev c28_4 : AC := .seq c28_3 .ret
abbrev c28_5 : AC := .cond (.t 4) c28_4 .skip
abbrev c28_6 : AC := .seq c28_2 c28_5
abbrev c28_7 : AC := .reg [⟨(some 5), .bslice 32 2 [], none⟩,
  ⟨(some 6), .mv (.t 0), none⟩,
  ⟨(some 7), .app 32 2 16 (.t 5) (.t 6), none⟩,
  ⟨(some 2), .mv (.t 7), none⟩] false
abbrev c28_8 : AC := .seq c28_7 .ret
abbrev c28_9 : AC := .seq c28_6 c28_8
abbrev c28_10 : AC := .seq c28_1 c28_9
abbrev c28 : AC := c28_10
theorem code28 : fnCode Try.prog 28 = some (c28, [2], 8) := by kernel_rfl
/- coinage/dating.Dates -/
abbrev c10_1 : AC := .reg [⟨(some 1), .box 26 (some 3) (.t 0), none⟩,
  ⟨(some 2), .mv (.k (.c .nil)), none⟩,
  ⟨(some 3), .mv (.k (.c .nil)), none⟩,
  ⟨(some 4), .mv (.k (.I 0)), none⟩] false
abbrev c10_2 : AC := .reg [⟨(some 10), .ld (some 3) (.t 1), none⟩,
  ⟨(some 11), .call 5 [(.t 10)], none⟩,
  ⟨(some 12), .not (.t 11), none⟩] false
abbrev c10_3 : AC := .reg [⟨(some 2), .mv (.k (.c .nil)), none⟩,
  ⟨(some 3), .mv (.k (.c .nil)), none⟩,
  ⟨(some 4), .mv (.k (.I 1)), none⟩] false
abbrev c10_4 : AC := .seq c10_3 .ret
abbrev c10_5 : AC := .cond (.t 12) c10_4 .skip
abbrev c10_6 : AC := .seq c10_2 c10_5
abbrev c10_7 : AC := .reg [⟨(some 14), .ld (some 3) (.t 1), none⟩,
  ⟨(some 15), .call 27 [(.t 14)], none⟩,
  ⟨(some 13), .mv (.t 15), none⟩,
  ⟨(some 16), .ext (.t 13) 0, none⟩,
  ⟨(some 17), .ext (.t 13) 1, none⟩,
  ⟨(some 5), .mv (.t 16), none⟩,
  ⟨(some 6), .mv (.t 17), none⟩] false
abbrev c10_8 : AC := .reg [⟨(some 18), .mv (.t 6), none⟩,
  ⟨(some 19), .not (.t 18), none⟩] false
abbrev c10_9 : AC := .reg [⟨(some 2), .mv (.k (.c .nil)), none⟩,
  ⟨(some 3), .mv (.k (.c .nil)), none⟩,
  ⟨(some 4), .mv (.k (.I 10)), none⟩] false
abbrev c10_10 : AC := .seq c10_9 .ret
abbrev c10_11 : AC := .cond (.t 19) c10_10 .skip
abbrev c10_12 : AC := .seq c10_8 c10_11
abbrev c10_13 : AC := .reg [⟨(some 7), .mv (.k (.c .nil)), none⟩] false
abbrev c10_14 : AC := .reg [⟨(some 8), .mv (.k (.I 1)), none⟩] false
abbrev c10_15 : AC := .reg [⟨(some 20), .mv (.t 8), none⟩,
  ⟨(some 21), .mv (.t 5), none⟩,
  ⟨(some 22), .len (.t 21), none⟩,
  ⟨(some 23), .bin .lss (.t 20) (.t 22), none⟩] false
abbrev c10_16 : AC := .cond (.t 23) .skip (.exit 0)
abbrev c10_17 : AC := .seq c10_15 c10_16
abbrev c10_18 : AC := .regX (.first ⟨(some 26), .mv (.t 7), none⟩
  (.first ⟨(some 27), .mv (.t 5), none⟩
  (.first ⟨(some 28), .mv (.t 8), none⟩
  (.first ⟨(some 29), .iad 1 (.t 27) (.t 28), none⟩
  (.first ⟨(some 34), .mv (.t 5), none⟩
  (.first ⟨(some 35), .iad 1 (.t 34) (.k (.I 0)), none⟩
  (.first ⟨(some 37), .mv (.t 8), none⟩
  (.fork ⟨(some 30), .ld none (.t 29), none⟩
  (.first ⟨(some 31), .iad 1 (.t 30) (.k (.I 0)), none⟩
  (.fork ⟨(some 32), .ld none (.t 31), none⟩
  (.first ⟨(some 33), .neg (.t 32), none⟩
  (.fork ⟨(some 36), .ld none (.t 35), none⟩
  (.first ⟨(some 38), .iad 1 (.t 36) (.t 37), none⟩
  (.fork ⟨(some 39), .ld none (.t 38), none⟩
  (.first ⟨(some 40), .build [(.I 0), (.I 0)] [(0, 1, (.t 33)), (1, 1, (.t 39))], none⟩
  (.fork ⟨(some 41), .bslice 32 2 [(.t 40)], none⟩
  (.fork ⟨(some 42), .app 32 2 16 (.t 26) (.t 41), none⟩
  (.first ⟨(some 7), .mv (.t 42), none⟩
  .done)
  .nope)
  .nope))
  .nope))
  .nope))
  (.fork ⟨(some 36), .ld none (.t 35), none⟩
  (.first ⟨(some 38), .iad 1 (.t 36) (.t 37), none⟩
  (.fork ⟨(some 32), .ld none (.t 31), none⟩
  (.first ⟨(some 33), .neg (.t 32), none⟩
  (.fork ⟨(some 39), .ld none (.t 38), none⟩
  (.first ⟨(some 40), .build [(.I 0), (.I 0)] [(0, 1, (.t 33)), (1, 1, (.t 39))], none⟩
  (.fork ⟨(some 41), .bslice 32 2 [(.t 40)], none⟩
  (.fork ⟨(some 42), .app 32 2 16 (.t 26) (.t 41), none⟩
  (.first ⟨(some 7), .mv (.t 42), none⟩
  .done)
  .nope)
  .nope))
  .nope))
  (.fork ⟨(some 39), .ld none (.t 38), none⟩
  (.fork ⟨(some 32), .ld none (.t 31), none⟩
  (.first ⟨(some 33), .neg (.t 32), none⟩
  (.first ⟨(some 40), .build [(.I 0), (.I 0)] [(0, 1, (.t 33)), (1, 1, (.t 39))], none⟩
  (.fork ⟨(some 41), .bslice 32 2 [(.t 40)], none⟩
  (.fork ⟨(some 42), .app 32 2 16 (.t 26) (.t 41), none⟩
  (.first ⟨(some 7), .mv (.t 42), none⟩
  .done)
  .nope)
  .nope)))
  .nope)
  .nope)))
  .nope)))
  (.fork ⟨(some 36), .ld none (.t 35), none⟩
  (.first ⟨(some 38), .iad 1 (.t 36) (.t 37), none⟩
  (.fork ⟨(some 30), .ld none (.t 29), none⟩
  (.first ⟨(some 31), .iad 1 (.t 30) (.k (.I 0)), none⟩
  (.fork ⟨(some 32), .ld none (.t 31), none⟩
  (.first ⟨(some 33), .neg (.t 32), none⟩
  (.fork ⟨(some 39), .ld none (.t 38), none⟩
  (.first ⟨(some 40), .build [(.I 0), (.I 0)] [(0, 1, (.t 33)), (1, 1, (.t 39))], none⟩
  (.fork ⟨(some 41), .bslice 32 2 [(.t 40)], none⟩
  (.fork ⟨(some 42), .app 32 2 16 (.t 26) (.t 41), none⟩
  (.first ⟨(some 7), .mv (.t 42), none⟩
  .done)
  .nope)
  .nope))
  .nope))
  (.fork ⟨(some 39), .ld none (.t 38), none⟩
  (.fork ⟨(some 32), .ld none (.t 31), none⟩
  (.first ⟨(some 33), .neg (.t 32), none⟩
  (.first ⟨(some 40), .build [(.I 0), (.I 0)] [(0, 1, (.t 33)), (1, 1, (.t 39))], none⟩
  (.fork ⟨(some 41), .bslice 32 2 [(.t 40)], none⟩
  (.fork ⟨(some 42), .app 32 2 16 (.t 26) (.t 41), none⟩
  (.first ⟨(some 7), .mv (.t 42), none⟩
  .done)
  .nope)
  .nope)))
  .nope)
  .nope)))
  (.fork ⟨(some 39), .ld none (.t 38), none⟩
  (.fork ⟨(some 30), .ld none (.t 29), none⟩
  (.first ⟨(some 31), .iad 1 (.t 30) (.k (.I 0)), none⟩
  (.fork ⟨(some 32), .ld none (.t 31), none⟩
  (.first ⟨(some 33), .neg (.t 32), none⟩
  (.first ⟨(some 40), .build [(.I 0), (.I 0)] [(0, 1, (.t 33)), (1, 1, (.t 39))], none⟩
  (.fork ⟨(some 41), .bslice 32 2 [(.t 40)], none⟩
  (.fork ⟨(some 42), .app 32 2 16 (.t 26) (.t 41), none⟩
  (.first ⟨(some 7), .mv (.t 42), none⟩
  .done)
  .nope)
  .nope)))
  .nope))
  .nope)
  .nope)))
  .nope)))))))))
abbrev c10_19 : AC := .block 1 c10_18
abbrev c10_20 : AC := .reg [⟨(some 24), .mv (.t 8), none⟩,
  ⟨(some 25), .bin .add (.t 24) (.k (.I 1)), none⟩,
  ⟨(some 8), .mv (.t 25), none⟩] false
abbrev c10_21 : AC := .seq c10_19 c10_20
abbrev c10_22 : AC := .seq c10_17 c10_21
abbrev c10_23 : AC := .loop c10_22
abbrev c10_24 : AC := .block 0 c10_23
abbrev c10_25 : AC := .seq c10_14 c10_24
abbrev c10_26 : AC := .reg [⟨(some 43), .fad 0 (.t 1), none⟩,
  ⟨(some 44), .ld none (.t 43), none⟩,
  ⟨(some 45), .len (.t 44), none⟩,
  ⟨(some 9), .mv (.t 45), none⟩] false
abbrev c10_27 : AC := .regX (.first ⟨(some 46), .mv (.t 7), none⟩
  (.first ⟨(some 47), .mv (.t 9), none⟩
  (.first ⟨(some 50), .mv (.t 7), none⟩
  (.first ⟨(some 51), .mv (.t 9), none⟩
  (.fork ⟨(some 48), .slc 2 (.t 46) none (some (.t 47)), none⟩
  (.fork ⟨(some 49), .call 28 [(.t 48)], none⟩
  (.fork ⟨(some 52), .slc 2 (.t 50) (some (.t 51)) none, none⟩
  (.fork ⟨(some 53), .call 28 [(.t 52)], none⟩
  (.first ⟨(some 2), .mv (.t 49), none⟩
  (.first ⟨(some 3), .mv (.t 53), none⟩
  (.first ⟨(some 4), .mv (.k (.I 0)), none⟩
  .done)))
  .nope)
  .nope)
  (.fork ⟨(some 52), .slc 2 (.t 50) (some (.t 51)) none, none⟩
  (.fork ⟨(some 49), .call 28 [(.t 48)], none⟩
  (.fork ⟨(some 53), .call 28 [(.t 52)], none⟩
  (.first ⟨(some 2), .mv (.t 49), none⟩
  (.first ⟨(some 3), .mv (.t 53), none⟩
  (.first ⟨(some 4), .mv (.k (.I 0)), none⟩
  .done)))
  .nope)
  .nope)
  .nope))
  (.fork ⟨(some 52), .slc 2 (.t 50) (some (.t 51)) none, none⟩
  (.fork ⟨(some 48), .slc 2 (.t 46) none (some (.t 47)), none⟩
  (.fork ⟨(some 49), .call 28 [(.t 48)], none⟩
  (.fork ⟨(some 53), .call 28 [(.t 52)], none⟩
  (.first ⟨(some 2), .mv (.t 49), none⟩
  (.first ⟨(some 3), .mv (.t 53), none⟩
  (.first ⟨(some 4), .mv (.k (.I 0)), none⟩
  .done)))
  .nope)
  .nope)
  .nope)
  .nope))))))
abbrev c10_28 : AC := .seq c10_27 .ret
abbrev c10_29 : AC := .seq c10_26 c10_28
abbrev c10_30 : AC := .seq c10_25 c10_29
abbrev c10_31 : AC := .seq c10_13 c10_30
abbrev c10_32 : AC := .seq c10_12 c10_31
abbrev c10_33 : AC := .seq c10_7 c10_32
abbrev c10_34 : AC := .seq c10_6 c10_33
abbrev c10_35 : AC := .seq c10_1 c10_34
abbrev c10 : AC := c10_35
theorem code10 : fnCode Try.prog 10 = some (c10, [2, 3, 4], 54) := by kernel_rfl
theorem x28 (l : List Yr) (hl : l.length ≤ 1000) : FnR Try.prog 28 [.c (Yrs l)] [.own 32 2 (l.map yc)] := by
  refine fn_walk code28 (by simp) ?_
  (repeat' (first | refine Sni.mk (fun hc => ?_) ?_ | refine Both.mk ?_ ?_ | ((first | refine aw ?_ | refine aD ?_ | refine aX ?_ | refine cT ?_ | refine cF ?_); try simp (disch := omega) only [go_sem, seval, reduceCtorEq, maxLen, List.length_map]) | refine aI (fun hc => ?_) fun hc => ?_ | simp (disch := omega) only [go_sem, seval, reduceCtorEq, maxLen, List.length_map] | (refine And.intro ?_ ?_; focus (first | (intros; omega) | (intros; simp_all; done))) | refine aA ?_ ?_ | fail))
  all_goals exact hc
def dtL (D : Mx) (k : Nat) : List Yr := (List.range k).map fun k => (-(D (k + 1) 0), D 0 (k + 1))
theorem dtL_len (D : Mx) (k : Nat) : (dtL D k).length = k := by simp [dtL]
theorem dtL_succ (D : Mx) (k : Nat) : dtL D (k + 1) = dtL D k ++ [(-(D (k + 1) 0), D 0 (k + 1))] := by
  unfold dtL; rw [List.range_succ, List.map_append]; rfl
theorem dM_bnd {c : Ch} (hv : vC c = true) (a b : Nat) : -60000000000000000 ≤ dM c a b ∧ dM c a b ≤ 1099511627776 := by
  have hin := bnd_in hv
  have hl := vC_len hv
  have hn : nV c = c.ty.length + 1 + c.ho.length := rfl
  have h1 := (mid_low (n := nV c) (m := inM EE (bnd c)) (inM_low (by decide) _ fun e he => (hin e he).2.2.2.1) (nV c) 0 0).all a b
  have h2 := mid_le (nV c) (inM EE (bnd c)) (nV c) 0 0 a b
  have h3 := init_le_aux (bnd c) (baseM EE) a b
  have h4 : baseM EE a b ≤ 1099511627776 := by unfold baseM; split <;> decide
  have h5 := lowB_le (nV c) (by omega)
  have h6 : (bnd c).foldl (fun m e => updM m e.i e.j (min (m e.i e.j) e.c)) (baseM EE) = inM EE (bnd c) := rfl
  rw [h6] at h3
  rw [midM_0] at h1 h2
  have h7 : rndF (nV c) (inM EE (bnd c)) (nV c) = dM c := rfl
  rw [h7] at h1 h2
  omega
theorem h10_r {Q : Exit → St → Prop} {σ : St} (h : Hold (AW Try.prog c10_27 Q σ)) : AW Try.prog c10_27 Q σ := h.out
theorem x10b (c : Ch) (hv : vC c = true) (ho : okD c = false) : FnR Try.prog 10 [chv c] [.c .nil, .c .nil, .c (.I 10)] := by
  have g5 := x5 c
  rw [hv] at g5
  have g := x27 c hv
  unfold resD at g
  rw [ho, if_neg (by decide)] at g
  refine fn_walk code10 (by simp) ?_
  (repeat' (first | refine Sni.mk (fun hc => ?_) ?_ | refine Both.mk ?_ ?_ | ((first | refine aw ?_ | refine aD ?_ | refine aX ?_ | refine cT ?_ | refine cF ?_ | refine cR (g5 ..) ?_ | refine cG (g5 ..) ?_ | refine cR (g ..) ?_ | refine cG (g ..) ?_); try simp (disch := omega) only [go_sem, seval, reduceCtorEq]) | refine aI (fun hc => ?_) fun hc => ?_ | simp (disch := omega) only [go_sem, seval, reduceCtorEq] | (refine And.intro ?_ ?_; focus (first | (intros; omega) | (intros; simp_all; done))) | refine aC ?_ ?_ | refine aC' ?_ ?_ | refine aA ?_ ?_ | fail))
set_option maxHeartbeats 8000000 in
theorem x10 (c : Ch) (hv : vC c = true) (ho : okD c = true) : FnR Try.prog 10 [chv c] [.own 32 2 (((dtL (dM c) (nV c - 1)).take c.ty.length).map yc), .own 32 2 (((dtL (dM c) (nV c - 1)).drop c.ty.length).map yc), .c (.I 0)] := by
  have hl := vC_len hv
  have hn : nV c = c.ty.length + 1 + c.ho.length := rfl
  have g5 := x5 c
  rw [hv] at g5
  have g := x27 c hv
  unfold resD at g
  rw [ho, if_pos rfl] at g
  have hb := dM_bnd hv
  generalize dM c = D at *
  generalize nV c = n at *
  have hll := TL_len n D
  refine fn_walk code10 (by simp) ?_
  (repeat' (first | refine Sni.mk (fun hc => ?_) ?_ | refine Both.mk ?_ ?_ | ((first | refine aw ?_ | refine aD ?_ | refine aX ?_ | refine cT ?_ | refine cF ?_ | refine cR (g5 ..) ?_ | refine cG (g5 ..) ?_ | refine cR (g ..) ?_ | refine cG (g ..) ?_); try simp (disch := omega) only [go_sem, seval, reduceCtorEq, hll]) | refine aI (fun hc => ?_) fun hc => ?_ | simp (disch := omega) only [go_sem, seval, reduceCtorEq, hll] | (refine And.intro ?_ ?_; focus (first | (intros; omega) | (intros; simp_all; done))) | refine aC ?_ ?_ | refine aC' ?_ ?_ | refine aA ?_ ?_ | fail))
  refine AW_nil 7 900 32 2 (by rfl) ?_
  refine AW_loopK [1, 5] [7, 8, 20, 21, 22, 23, 24, 25, 26, 27, 28, 29, 30, 31, 32, 33, 34, 35, 36, 37, 38, 39, 40, 41, 42] (fun i : Nat => 1 ≤ i ∧ i ≤ n) (fun i => [(7, .own 900), (8, .I i)]) (fun i => [(900, .arr 32 2 ((dtL D (i - 1)).map yc))]) (fun i => n - i) 1 (by omega) ?_ ?_
  · simp (disch := omega) only [go_sem, seval, reduceCtorEq, Int.natCast_one, Nat.sub_self, dtL, List.range_zero, List.map_nil]
  · intro i hi
    rcases Nat.lt_or_ge i n with hin | hin
    · have hkk : ((i : Int) < (n : Int)) = True := eq_true (by omega)
      have ge1 := TL_get D hin
      have ge0 := TL_get (n := n) D (i := 0) (by omega)
      have ge2 := rowM_get (n := n) D i (j := 0) (by omega)
      have ge3 := rowM_get D 0 hin
      have hl1 := rowM_len n D i
      have hl2 := rowM_len n D 0
      have hb1 := hb i 0
      have hb2 := hb 0 i
      have hs : (dtL D i).map yc = (dtL D (i - 1)).map yc ++ [[.I (-(D i 0)), .I (D 0 i)]] := by
        have := dtL_succ D (i - 1)
        rw [show i - 1 + 1 = i by omega] at this
        rw [this, List.map_append]; rfl
      have hdl := dtL_len D (i - 1)
      have hml : ((dtL D (i - 1)).map yc).length ≤ 100 := by rw [List.length_map, hdl]; omega
      have h0n : ((0 : Int) < (n : Int)) = True := eq_true (by omega)
      have h00 : Int.toNat 0 = 0 := rfl
      generalize hR : (dtL D (i - 1)).map yc = R at *
      (repeat' (first | refine Sni.mk (fun hc => ?_) ?_ | refine Both.mk ?_ ?_ | ((first | refine aw ?_ | refine aD ?_ | refine aX ?_ | refine cT ?_ | refine cF ?_); try simp (maxSteps := 5000000) (disch := omega) only [go_sem, seval, reduceCtorEq, hkk, hll, h0n, ge1, ge0, ge2, ge3, hl1, hl2, h00, maxLen, Int.toNat_natCast, Int.zero_sub]) | refine aI (fun hc => ?_) fun hc => ?_ | simp (maxSteps := 5000000) (disch := omega) only [go_sem, seval, reduceCtorEq, hkk, hll, h0n, ge1, ge0, ge2, ge3, hl1, hl2, h00, maxLen, Int.toNat_natCast, Int.zero_sub] | (refine And.intro ?_ ?_; focus (first | (intros; omega) | (intros; simp_all; done))) | refine aA ?_ ?_ | fail))
      repeat' apply And.intro
      all_goals first | omega | skip
      all_goals (
        (repeat' (first | refine Sni.mk (fun hc => ?_) ?_ | refine Both.mk ?_ ?_ | ((first | refine aw ?_ | refine aD ?_ | refine aX ?_ | refine cT ?_ | refine cF ?_); try simp (disch := omega) only [go_sem, seval, reduceCtorEq]) | refine aI (fun hc => ?_) fun hc => ?_ | simp (disch := omega) only [go_sem, seval, reduceCtorEq] | (refine And.intro ?_ ?_; focus (first | (intros; omega) | (intros; simp_all; done))) | refine aA ?_ ?_ | fail))
        refine .mk (i + 1) (by omega) (by omega) ?_
        rw [show i + 1 - 1 = i by omega, hs]
        simp (disch := omega) only [go_sem, seval, reduceCtorEq, Int.natCast_add, Int.natCast_one])
    · obtain rfl : i = n := by omega
      have hkk : ((i : Int) < (i : Int)) = False := eq_false (by omega)
      have hdl := dtL_len D (i - 1)
      (repeat' (first | (with_reducible refine h10_r ?_) | refine Sni.mk (fun hc => ?_) ?_ | refine Both.mk ?_ ?_ | ((first | refine aw ?_ | refine aD ?_ | refine aX ?_ | refine cT ?_ | refine cF ?_); try simp (disch := omega) only [go_sem, seval, reduceCtorEq, hkk, hll, List.length_map]) | refine aI (fun hc => ?_) fun hc => ?_ | simp (disch := omega) only [go_sem, seval, reduceCtorEq, hkk, hll, List.length_map] | (refine And.intro ?_ ?_; focus (first | (intros; omega) | (intros; simp_all; done))) | refine aA ?_ ?_ | fail))
      refine ⟨AW_frz [900] ?_⟩
      have hlen : ((dtL D (i - 1)).map yc).length = i - 1 := by rw [List.length_map, hdl]
      have g1 : FnR Try.prog 28 [.c (.sl 2 (((dtL D (i - 1)).map yc).take c.ty.length))] [.own 32 2 (((dtL D (i - 1)).map yc).take c.ty.length)] := by
        rw [← List.map_take]; exact x28 _ (by rw [List.length_take]; omega)
      have g2 : FnR Try.prog 28 [.c (.sl 2 (((dtL D (i - 1)).map yc).drop c.ty.length))] [.own 32 2 (((dtL D (i - 1)).map yc).drop c.ty.length)] := by
        rw [← List.map_drop]; exact x28 _ (by rw [List.length_drop]; omega)
      have hti : ∀ {r : List (List CD)}, r.length = i - 1 → r.take (i - 1) = r := fun h => List.take_of_length_le (by omega)
      rw [List.map_take, List.map_drop]
      generalize (dtL D (i - 1)).map yc = R at *
      have hti := hti hlen
      (repeat' (first | refine Sni.mk (fun hc => ?_) ?_ | refine Both.mk ?_ ?_ | ((first | refine aw ?_ | refine aD ?_ | refine aX ?_ | refine cT ?_ | refine cF ?_ | refine cR (g1 ..) ?_ | refine cG (g1 ..) ?_ | refine cR (g2 ..) ?_ | refine cG (g2 ..) ?_); try simp (disch := omega) only [go_sem, seval, reduceCtorEq, hlen, hti, Int.toNat_natCast, List.drop_zero]) | refine aI (fun hc => ?_) fun hc => ?_ | simp (disch := omega) only [go_sem, seval, reduceCtorEq, hlen, hti, Int.toNat_natCast, List.drop_zero] | (refine And.intro ?_ ?_; focus (first | (intros; omega) | (intros; simp_all; done))) | refine aC ?_ ?_ | refine aC' ?_ ?_ | refine aA ?_ ?_ | fail))
      repeat' apply And.intro
      all_goals first | omega | skip
      all_goals ((repeat' (first | refine Sni.mk (fun hc => ?_) ?_ | refine Both.mk ?_ ?_ | ((first | refine aw ?_ | refine aD ?_ | refine aX ?_ | refine cT ?_ | refine cF ?_ | refine cR (g1 ..) ?_ | refine cG (g1 ..) ?_ | refine cR (g2 ..) ?_ | refine cG (g2 ..) ?_); try simp (disch := omega) only [go_sem, seval, reduceCtorEq, hlen, hti, Int.toNat_natCast, List.drop_zero]) | refine aI (fun hc => ?_) fun hc => ?_ | simp (disch := omega) only [go_sem, seval, reduceCtorEq, hlen, hti, Int.toNat_natCast, List.drop_zero] | (refine And.intro ?_ ?_; focus (first | (intros; omega) | (intros; simp_all; done))) | refine aC ?_ ?_ | refine aC' ?_ ?_ | refine aA ?_ ?_ | fail)))
      repeat' apply And.intro
      all_goals first | omega | skip
      all_goals ((repeat' (first | refine Sni.mk (fun hc => ?_) ?_ | refine Both.mk ?_ ?_ | ((first | refine aw ?_ | refine aD ?_ | refine aX ?_ | refine cT ?_ | refine cF ?_ | refine cR (g1 ..) ?_ | refine cG (g1 ..) ?_ | refine cR (g2 ..) ?_ | refine cG (g2 ..) ?_); try simp (disch := omega) only [go_sem, seval, reduceCtorEq, hlen, hti, Int.toNat_natCast, List.drop_zero]) | refine aI (fun hc => ?_) fun hc => ?_ | simp (disch := omega) only [go_sem, seval, reduceCtorEq, hlen, hti, Int.toNat_natCast, List.drop_zero] | (refine And.intro ?_ ?_; focus (first | (intros; omega) | (intros; simp_all; done))) | refine aC ?_ ?_ | refine aC' ?_ ?_ | refine aA ?_ ?_ | fail)))
end Go.Proofs.Ytdmngdphgnnoiaa

