/-
  Lemmas for the proof: no statement of its own.
-/
import Derived.Test.YtcimlelkeppoiaaProg
import Derived.Test.YtcimlelkeppoiaaAlD
import Derived.KernelRfl
import Derived.Test.YtcimlelkeppoiaaWalkB
set_option linter.unusedVariables false
set_option linter.unusedSimpArgs false
open Go Go.AL
namespace Go.Proofs.Ytcimlelkeppoiaa
/- coinage/coinagelaw29.awake -/
abbrev c4_1 : AC := .reg [⟨(some 0), .mv (.k (.B false)), none⟩] false
abbrev c4_2 : AC := .reg [⟨(some 5), .call 12 [], none⟩,
  ⟨(some 6), .call 7 [(.k (.I 4)), (.t 5)], none⟩,
  ⟨(some 4), .mv (.t 6), none⟩,
  ⟨(some 7), .ext (.t 4) 0, none⟩,
  ⟨(some 8), .ext (.t 4) 1, none⟩,
  ⟨(some 9), .ext (.t 4) 2, none⟩,
  ⟨(some 1), .mv (.t 7), none⟩,
  ⟨(some 2), .mv (.t 8), none⟩,
  ⟨(some 3), .mv (.t 9), none⟩] false
abbrev c4_3 : AC := .reg [⟨(some 10), .mv (.t 3), none⟩,
  ⟨(some 11), .bin .eql (.t 10) (.k (.I 0)), none⟩,
  ⟨(some 12), .mv (.t 11), none⟩,
  ⟨(some 13), .mv (.t 1), (some (12, true))⟩,
  ⟨(some 14), .bslice 3 1 [(.k (.I 0)), (.k (.I 1)), (.k (.I 3))], (some (12, true))⟩,
  ⟨(some 15), .call 13 [(.t 13), (.t 14)], (some (12, true))⟩,
  ⟨(some 16), .pick (.t 12) (.t 15) (.k (.B false)), none⟩,
  ⟨(some 17), .mv (.t 16), none⟩,
  ⟨(some 18), .mv (.t 2), (some (17, true))⟩,
  ⟨(some 19), .bslice 3 1 [(.k (.I 0)), (.k (.I 1)), (.k (.I 2))], (some (17, true))⟩,
  ⟨(some 20), .call 13 [(.t 18), (.t 19)], (some (17, true))⟩,
  ⟨(some 21), .pick (.t 17) (.t 20) (.k (.B false)), none⟩,
  ⟨(some 22), .mv (.t 21), none⟩,
  ⟨(some 23), .bslice 3 1 [(.k (.I 0)), (.k (.I 1))], (some (22, true))⟩,
  ⟨(some 24), .bslice 3 1 [(.k (.I 1)), (.k (.I 2))], (some (22, true))⟩,
  ⟨(some 25), .bslice 3 1 [(.k (.I 0)), (.k (.I 2))], (some (22, true))⟩,
  ⟨(some 26), .bslice 25 1 [(.t 23), (.t 24), (.t 25)], (some (22, true))⟩,
  ⟨(some 27), .call 14 [(.k (.I 3)), (.t 26)], (some (22, true))⟩,
  ⟨(some 28), .bin .eql (.t 27) (.k (.I 1)), (some (22, true))⟩,
  ⟨(some 29), .pick (.t 22) (.t 28) (.k (.B false)), none⟩,
  ⟨(some 0), .mv (.t 29), none⟩] false
abbrev c4_4 : AC := .seq c4_3 .ret
abbrev c4_5 : AC := .seq c4_2 c4_4
abbrev c4_6 : AC := .seq c4_1 c4_5
abbrev c4 : AC := c4_6
theorem code4 : fnCode Try.prog 4 = some (c4, [0], 30) := by kernel_rfl
/- coinage/coinagelaw29.few -/
abbrev c5_1 : AC := .reg [⟨(some 4), .mv (.k (.B false)), none⟩] false
abbrev c5_2 : AC := .reg [⟨(some 6), .mv (.t 0), none⟩,
  ⟨(some 7), .bin .gtr (.t 6) (.k (.I 5)), none⟩,
  ⟨(some 8), .mv (.t 7), none⟩,
  ⟨(some 9), .mv (.t 0), (some (8, true))⟩,
  ⟨(some 10), .bin .leq (.t 9) (.k (.I 7)), (some (8, true))⟩,
  ⟨(some 11), .pick (.t 8) (.t 10) (.k (.B false)), none⟩,
  ⟨(some 12), .mv (.t 11), none⟩,
  ⟨(some 13), .mv (.t 1), (some (12, false))⟩,
  ⟨(some 14), .len (.t 13), (some (12, false))⟩,
  ⟨(some 15), .bin .gtr (.t 14) (.k (.I 20)), (some (12, false))⟩,
  ⟨(some 16), .pick (.t 12) (.k (.B true)) (.t 15), none⟩] false
abbrev c5_3 : AC := .reg [⟨(some 4), .mv (.k (.B false)), none⟩] false
abbrev c5_4 : AC := .seq c5_3 .ret
abbrev c5_5 : AC := .cond (.t 16) c5_4 .skip
abbrev c5_6 : AC := .seq c5_2 c5_5
abbrev c5_7 : AC := .reg [⟨(some 5), .mv (.k (.I 0)), none⟩] false
abbrev c5_8 : AC := .reg [⟨(some 17), .mv (.t 5), none⟩,
  ⟨(some 18), .mv (.t 1), none⟩,
  ⟨(some 19), .len (.t 18), none⟩,
  ⟨(some 20), .bin .lss (.t 17) (.t 19), none⟩] false
abbrev c5_9 : AC := .cond (.t 20) .skip (.exit 0)
abbrev c5_10 : AC := .seq c5_8 c5_9
abbrev c5_11 : AC := .reg [⟨(some 23), .mv (.t 1), none⟩,
  ⟨(some 24), .mv (.t 5), none⟩,
  ⟨(some 25), .iad 1 (.t 23) (.t 24), none⟩,
  ⟨(some 26), .ld none (.t 25), none⟩,
  ⟨(some 27), .len (.t 26), none⟩,
  ⟨(some 28), .bin .gtr (.t 27) (.k (.I 30)), none⟩] false
abbrev c5_12 : AC := .reg [⟨(some 4), .mv (.k (.B false)), none⟩] false
abbrev c5_13 : AC := .seq c5_12 .ret
abbrev c5_14 : AC := .cond (.t 28) c5_13 .skip
abbrev c5_15 : AC := .seq c5_11 c5_14
abbrev c5_16 : AC := .block 1 c5_15
abbrev c5_17 : AC := .reg [⟨(some 21), .mv (.t 5), none⟩,
  ⟨(some 22), .bin .add (.t 21) (.k (.I 1)), none⟩,
  ⟨(some 5), .mv (.t 22), none⟩] false
abbrev c5_18 : AC := .seq c5_16 c5_17
abbrev c5_19 : AC := .seq c5_10 c5_18
abbrev c5_20 : AC := .loop c5_19
abbrev c5_21 : AC := .block 0 c5_20
abbrev c5_22 : AC := .seq c5_7 c5_21
abbrev c5_23 : AC := .reg [⟨(some 4), .mv (.k (.B true)), none⟩] false
abbrev c5_24 : AC := .seq c5_23 .ret
abbrev c5_25 : AC := .seq c5_22 c5_24
abbrev c5_26 : AC := .seq c5_6 c5_25
abbrev c5_27 : AC := .seq c5_1 c5_26
abbrev c5 : AC := c5_27
theorem code5 : fnCode Try.prog 5 = some (c5, [4], 29) := by kernel_rfl
/- coinage/obstruction.Cut -/
abbrev c28_1 : AC := .reg [⟨(some 8), .mv (.k (.c .nil)), none⟩,
  ⟨(some 9), .mv (.k (.I 0)), none⟩] false
abbrev c28_2 : AC := .reg [⟨(some 17), .mv (.t 0), none⟩,
  ⟨(some 18), .mv (.t 1), none⟩,
  ⟨(some 19), .call 16 [(.t 17), (.t 18)], none⟩,
  ⟨(some 20), .not (.t 19), none⟩] false
abbrev c28_3 : AC := .reg [⟨(some 8), .mv (.k (.c .nil)), none⟩,
  ⟨(some 9), .mv (.k (.I 1)), none⟩] false
abbrev c28_4 : AC := .seq c28_3 .ret
abbrev c28_5 : AC := .cond (.t 20) c28_4 .skip
abbrev c28_6 : AC := .seq c28_2 c28_5
abbrev c28_7 : AC := .reg [⟨(some 21), .mv (.t 2), none⟩,
  ⟨(some 22), .mv (.t 1), none⟩,
  ⟨(some 23), .len (.t 22), none⟩,
  ⟨(some 24), .call 41 [(.t 21), (.t 23)], none⟩,
  ⟨(some 25), .not (.t 24), none⟩,
  ⟨(some 26), .mv (.t 25), none⟩,
  ⟨(some 27), .mv (.t 3), (some (26, false))⟩,
  ⟨(some 28), .mv (.t 0), (some (26, false))⟩,
  ⟨(some 29), .call 41 [(.t 27), (.t 28)], (some (26, false))⟩,
  ⟨(some 30), .not (.t 29), (some (26, false))⟩,
  ⟨(some 31), .pick (.t 26) (.k (.B true)) (.t 30), none⟩] false
abbrev c28_8 : AC := .reg [⟨(some 8), .mv (.k (.c .nil)), none⟩,
  ⟨(some 9), .mv (.k (.I 2)), none⟩] false
abbrev c28_9 : AC := .seq c28_8 .ret
abbrev c28_10 : AC := .cond (.t 31) c28_9 .skip
abbrev c28_11 : AC := .seq c28_7 c28_10
abbrev c28_12 : AC := .reg [⟨(some 10), .mv (.k (.c .nil)), none⟩] false
abbrev c28_13 : AC := .reg [⟨(some 32), .mv (.t 2), none⟩,
  ⟨(some 33), .len (.t 32), none⟩,
  ⟨(some 34), .mv (.k (.I 0)), none⟩] false
abbrev c28_14 : AC := .reg [⟨(some 35), .bin .lss (.t 34) (.t 33), none⟩] false
abbrev c28_15 : AC := .cond (.t 35) .skip (.exit 0)
abbrev c28_16 : AC := .reg [⟨(some 36), .iad 1 (.t 32) (.t 34), none⟩,
  ⟨(some 37), .ld none (.t 36), none⟩,
  ⟨(some 12), .mv (.t 37), none⟩] false
abbrev c28_17 : AC := .reg [⟨(some 13), .mv (.k (.c .nil)), none⟩] false
abbrev c28_18 : AC := .reg [⟨(some 38), .mv (.t 1), none⟩,
  ⟨(some 39), .mv (.t 12), none⟩,
  ⟨(some 40), .iad 1 (.t 38) (.t 39), none⟩,
  ⟨(some 41), .ld none (.t 40), none⟩,
  ⟨(some 42), .len (.t 41), none⟩,
  ⟨(some 43), .mv (.k (.I 0)), none⟩] false
abbrev c28_19 : AC := .reg [⟨(some 44), .bin .lss (.t 43) (.t 42), none⟩] false
abbrev c28_20 : AC := .cond (.t 44) .skip (.exit 2)
abbrev c28_21 : AC := .reg [⟨(some 45), .iad 1 (.t 41) (.t 43), none⟩,
  ⟨(some 46), .ld none (.t 45), none⟩,
  ⟨(some 15), .mv (.t 46), none⟩] false
abbrev c28_22 : AC := .reg [⟨(some 47), .mv (.t 3), none⟩,
  ⟨(some 48), .mv (.t 15), none⟩,
  ⟨(some 49), .call 42 [(.t 47), (.t 48)], none⟩,
  ⟨(some 16), .mv (.t 49), none⟩] false
abbrev c28_23 : AC := .reg [⟨(some 50), .mv (.t 16), none⟩,
  ⟨(some 51), .bin .geq (.t 50) (.k (.I 0)), none⟩] false
abbrev c28_24 : AC := .reg [⟨(some 52), .mv (.t 13), none⟩,
  ⟨(some 53), .mv (.t 16), none⟩,
  ⟨(some 54), .bslice 3 1 [(.t 53)], none⟩,
  ⟨(some 55), .app 3 1 8 (.t 52) (.t 54), none⟩,
  ⟨(some 13), .mv (.t 55), none⟩] false
abbrev c28_25 : AC := .cond (.t 51) c28_24 .skip
abbrev c28_26 : AC := .seq c28_23 c28_25
abbrev c28_27 : AC := .seq c28_22 c28_26
abbrev c28_28 : AC := .seq c28_21 c28_27
abbrev c28_29 : AC := .block 3 c28_28
abbrev c28_30 : AC := .reg [⟨(some 56), .bin .add (.t 43) (.k (.I 1)), none⟩,
  ⟨(some 43), .mv (.t 56), none⟩] false
abbrev c28_31 : AC := .seq c28_29 c28_30
abbrev c28_32 : AC := .seq c28_20 c28_31
abbrev c28_33 : AC := .seq c28_19 c28_32
abbrev c28_34 : AC := .loop c28_33
abbrev c28_35 : AC := .block 2 c28_34
abbrev c28_36 : AC := .seq c28_18 c28_35
abbrev c28_37 : AC := .reg [⟨(some 57), .mv (.t 10), none⟩,
  ⟨(some 58), .mv (.t 13), none⟩,
  ⟨(some 59), .bslice 25 1 [(.t 58)], none⟩,
  ⟨(some 60), .app 25 1 24 (.t 57) (.t 59), none⟩,
  ⟨(some 10), .mv (.t 60), none⟩] false
abbrev c28_38 : AC := .seq c28_36 c28_37
abbrev c28_39 : AC := .seq c28_17 c28_38
abbrev c28_40 : AC := .seq c28_16 c28_39
abbrev c28_41 : AC := .block 1 c28_40
abbrev c28_42 : AC := .reg [⟨(some 61), .bin .add (.t 34) (.k (.I 1)), none⟩,
  ⟨(some 34), .mv (.t 61), none⟩] false
abbrev c28_43 : AC := .seq c28_41 c28_42
abbrev c28_44 : AC := .seq c28_15 c28_43
abbrev c28_45 : AC := .seq c28_14 c28_44
abbrev c28_46 : AC := .loop c28_45
abbrev c28_47 : AC := .block 0 c28_46
abbrev c28_48 : AC := .seq c28_13 c28_47
abbrev c28_49 : AC := .reg [⟨(some 62), .mv (.t 10), none⟩,
  ⟨(some 8), .mv (.t 62), none⟩,
  ⟨(some 9), .mv (.k (.I 0)), none⟩] false
abbrev c28_50 : AC := .seq c28_49 .ret
abbrev c28_51 : AC := .seq c28_48 c28_50
abbrev c28_52 : AC := .seq c28_12 c28_51
abbrev c28_53 : AC := .seq c28_11 c28_52
abbrev c28_54 : AC := .seq c28_6 c28_53
abbrev c28_55 : AC := .seq c28_1 c28_54
abbrev c28 : AC := c28_55
theorem code28 : fnCode Try.prog 28 = some (c28, [8, 9], 63) := by kernel_rfl
/- coinage/obstruction.Is -/
abbrev c18_1 : AC := .reg [⟨(some 8), .mv (.k (.B false)), none⟩] false
abbrev c18_2 : AC := .reg [⟨(some 12), .mv (.t 0), none⟩,
  ⟨(some 13), .mv (.t 1), none⟩,
  ⟨(some 14), .mv (.t 2), none⟩,
  ⟨(some 15), .mv (.t 3), none⟩,
  ⟨(some 16), .call 28 [(.t 12), (.t 13), (.t 14), (.t 15)], none⟩,
  ⟨(some 11), .mv (.t 16), none⟩,
  ⟨(some 17), .ext (.t 11) 0, none⟩,
  ⟨(some 18), .ext (.t 11) 1, none⟩,
  ⟨(some 9), .mv (.t 17), none⟩,
  ⟨(some 10), .mv (.t 18), none⟩] false
abbrev c18_3 : AC := .reg [⟨(some 19), .mv (.t 10), none⟩,
  ⟨(some 20), .bin .eql (.t 19) (.k (.I 0)), none⟩,
  ⟨(some 21), .mv (.t 20), none⟩,
  ⟨(some 22), .mv (.t 3), (some (21, true))⟩,
  ⟨(some 23), .len (.t 22), (some (21, true))⟩,
  ⟨(some 24), .mv (.t 9), (some (21, true))⟩,
  ⟨(some 25), .call 8 [(.t 23), (.t 24)], (some (21, true))⟩,
  ⟨(some 26), .not (.t 25), (some (21, true))⟩,
  ⟨(some 27), .pick (.t 21) (.t 26) (.k (.B false)), none⟩,
  ⟨(some 8), .mv (.t 27), none⟩] false
abbrev c18_4 : AC := .seq c18_3 .ret
abbrev c18_5 : AC := .seq c18_2 c18_4
abbrev c18_6 : AC := .seq c18_1 c18_5
abbrev c18 : AC := c18_6
theorem code18 : fnCode Try.prog 18 = some (c18, [8], 28) := by kernel_rfl
/- coinage/obstruction.Minimal -/
abbrev c9_1 : AC := .reg [⟨(some 8), .mv (.k (.B false)), none⟩] false
abbrev c9_2 : AC := .reg [⟨(some 11), .mv (.t 0), none⟩,
  ⟨(some 12), .mv (.t 1), none⟩,
  ⟨(some 13), .mv (.t 2), none⟩,
  ⟨(some 14), .mv (.t 3), none⟩,
  ⟨(some 15), .call 18 [(.t 11), (.t 12), (.t 13), (.t 14)], none⟩,
  ⟨(some 16), .not (.t 15), none⟩] false
abbrev c9_3 : AC := .reg [⟨(some 8), .mv (.k (.B false)), none⟩] false
abbrev c9_4 : AC := .seq c9_3 .ret
abbrev c9_5 : AC := .cond (.t 16) c9_4 .skip
abbrev c9_6 : AC := .seq c9_2 c9_5
abbrev c9_7 : AC := .reg [⟨(some 17), .mv (.t 2), none⟩,
  ⟨(some 18), .len (.t 17), none⟩,
  ⟨(some 19), .mv (.k (.I 0)), none⟩] false
abbrev c9_8 : AC := .reg [⟨(some 20), .bin .lss (.t 19) (.t 18), none⟩] false
abbrev c9_9 : AC := .cond (.t 20) .skip (.exit 0)
abbrev c9_10 : AC := .reg [⟨(some 21), .mv (.t 19), none⟩,
  ⟨(some 9), .mv (.t 21), none⟩] false
abbrev c9_11 : AC := .reg [⟨(some 22), .mv (.t 0), none⟩,
  ⟨(some 23), .mv (.t 1), none⟩,
  ⟨(some 24), .mv (.t 2), none⟩,
  ⟨(some 25), .mv (.t 9), none⟩,
  ⟨(some 26), .call 19 [(.t 24), (.t 25)], none⟩,
  ⟨(some 27), .mv (.t 3), none⟩,
  ⟨(some 28), .call 18 [(.t 22), (.t 23), (.t 26), (.t 27)], none⟩] false
abbrev c9_12 : AC := .reg [⟨(some 8), .mv (.k (.B false)), none⟩] false
abbrev c9_13 : AC := .seq c9_12 .ret
abbrev c9_14 : AC := .cond (.t 28) c9_13 .skip
abbrev c9_15 : AC := .seq c9_11 c9_14
abbrev c9_16 : AC := .seq c9_10 c9_15
abbrev c9_17 : AC := .block 1 c9_16
abbrev c9_18 : AC := .reg [⟨(some 29), .bin .add (.t 19) (.k (.I 1)), none⟩,
  ⟨(some 19), .mv (.t 29), none⟩] false
abbrev c9_19 : AC := .seq c9_17 c9_18
abbrev c9_20 : AC := .seq c9_9 c9_19
abbrev c9_21 : AC := .seq c9_8 c9_20
abbrev c9_22 : AC := .loop c9_21
abbrev c9_23 : AC := .block 0 c9_22
abbrev c9_24 : AC := .seq c9_7 c9_23
abbrev c9_25 : AC := .reg [⟨(some 30), .mv (.t 3), none⟩,
  ⟨(some 31), .len (.t 30), none⟩,
  ⟨(some 32), .mv (.k (.I 0)), none⟩] false
abbrev c9_26 : AC := .reg [⟨(some 33), .bin .lss (.t 32) (.t 31), none⟩] false
abbrev c9_27 : AC := .cond (.t 33) .skip (.exit 2)
abbrev c9_28 : AC := .reg [⟨(some 34), .mv (.t 32), none⟩,
  ⟨(some 10), .mv (.t 34), none⟩] false
abbrev c9_29 : AC := .reg [⟨(some 35), .mv (.t 0), none⟩,
  ⟨(some 36), .mv (.t 1), none⟩,
  ⟨(some 37), .mv (.t 2), none⟩,
  ⟨(some 38), .mv (.t 3), none⟩,
  ⟨(some 39), .mv (.t 10), none⟩,
  ⟨(some 40), .call 19 [(.t 38), (.t 39)], none⟩,
  ⟨(some 41), .call 18 [(.t 35), (.t 36), (.t 37), (.t 40)], none⟩] false
abbrev c9_30 : AC := .reg [⟨(some 8), .mv (.k (.B false)), none⟩] false
abbrev c9_31 : AC := .seq c9_30 .ret
abbrev c9_32 : AC := .cond (.t 41) c9_31 .skip
abbrev c9_33 : AC := .seq c9_29 c9_32
abbrev c9_34 : AC := .seq c9_28 c9_33
abbrev c9_35 : AC := .block 3 c9_34
abbrev c9_36 : AC := .reg [⟨(some 42), .bin .add (.t 32) (.k (.I 1)), none⟩,
  ⟨(some 32), .mv (.t 42), none⟩] false
abbrev c9_37 : AC := .seq c9_35 c9_36
abbrev c9_38 : AC := .seq c9_27 c9_37
abbrev c9_39 : AC := .seq c9_26 c9_38
abbrev c9_40 : AC := .loop c9_39
abbrev c9_41 : AC := .block 2 c9_40
abbrev c9_42 : AC := .seq c9_25 c9_41
abbrev c9_43 : AC := .reg [⟨(some 8), .mv (.k (.B true)), none⟩] false
abbrev c9_44 : AC := .seq c9_43 .ret
abbrev c9_45 : AC := .seq c9_42 c9_44
abbrev c9_46 : AC := .seq c9_24 c9_45
abbrev c9_47 : AC := .seq c9_6 c9_46
abbrev c9_48 : AC := .seq c9_1 c9_47
abbrev c9 : AC := c9_48
theorem code9 : fnCode Try.prog 9 = some (c9, [8], 43) := by kernel_rfl
/- coinage/coinageref27.Valid -/
abbrev c6_1 : AC := .reg [⟨(some 4), .mv (.k (.B false)), none⟩] false
abbrev c6_2 : AC := .reg [⟨(some 5), .mv (.t 0), none⟩,
  ⟨(some 6), .mv (.t 1), none⟩,
  ⟨(some 7), .call 15 [(.t 5), (.t 6)], none⟩,
  ⟨(some 4), .mv (.t 7), none⟩] false
abbrev c6_3 : AC := .seq c6_2 .ret
abbrev c6_4 : AC := .seq c6_1 c6_3
abbrev c6 : AC := c6_4
theorem code6 : fnCode Try.prog 6 = some (c6, [4], 8) := by kernel_rfl
/- coinage/consecutive.Possible -/
abbrev c8_1 : AC := .reg [⟨(some 4), .mv (.k (.B false)), none⟩] false
abbrev c8_2 : AC := .reg [⟨(some 8), .mv (.t 0), none⟩,
  ⟨(some 9), .mv (.t 1), none⟩,
  ⟨(some 10), .call 20 [(.t 8), (.t 9)], none⟩,
  ⟨(some 7), .mv (.t 10), none⟩,
  ⟨(some 11), .ext (.t 7) 0, none⟩,
  ⟨(some 12), .ext (.t 7) 1, none⟩,
  ⟨(some 5), .mv (.t 11), none⟩,
  ⟨(some 6), .mv (.t 12), none⟩] false
abbrev c8_3 : AC := .reg [⟨(some 13), .mv (.t 6), none⟩,
  ⟨(some 14), .bin .eql (.t 13) (.k (.I 0)), none⟩,
  ⟨(some 4), .mv (.t 14), none⟩] false
abbrev c8_4 : AC := .seq c8_3 .ret
abbrev c8_5 : AC := .seq c8_2 c8_4
abbrev c8_6 : AC := .seq c8_1 c8_5
abbrev c8 : AC := c8_6
theorem code8 : fnCode Try.prog 8 = some (c8, [4], 15) := by kernel_rfl
/- coinage/obstruction.Find -/
abbrev c7_1 : AC := .reg [⟨(some 4), .mv (.k (.c .nil)), none⟩,
  ⟨(some 5), .mv (.k (.c .nil)), none⟩,
  ⟨(some 6), .mv (.k (.I 0)), none⟩] false
abbrev c7_2 : AC := .reg [⟨(some 13), .mv (.t 0), none⟩,
  ⟨(some 14), .mv (.t 1), none⟩,
  ⟨(some 15), .call 16 [(.t 13), (.t 14)], none⟩,
  ⟨(some 16), .not (.t 15), none⟩] false
abbrev c7_3 : AC := .reg [⟨(some 4), .mv (.k (.c .nil)), none⟩,
  ⟨(some 5), .mv (.k (.c .nil)), none⟩,
  ⟨(some 6), .mv (.k (.I 1)), none⟩] false
abbrev c7_4 : AC := .seq c7_3 .ret
abbrev c7_5 : AC := .cond (.t 16) c7_4 .skip
abbrev c7_6 : AC := .seq c7_2 c7_5
abbrev c7_7 : AC := .reg [⟨(some 17), .mv (.t 1), none⟩,
  ⟨(some 18), .len (.t 17), none⟩,
  ⟨(some 19), .call 17 [(.t 18)], none⟩,
  ⟨(some 20), .mv (.t 0), none⟩,
  ⟨(some 21), .call 17 [(.t 20)], none⟩,
  ⟨(some 7), .mv (.t 19), none⟩,
  ⟨(some 8), .mv (.t 21), none⟩] false
abbrev c7_8 : AC := .reg [⟨(some 22), .mv (.t 0), none⟩,
  ⟨(some 23), .mv (.t 1), none⟩,
  ⟨(some 24), .mv (.t 7), none⟩,
  ⟨(some 25), .mv (.t 8), none⟩,
  ⟨(some 26), .call 18 [(.t 22), (.t 23), (.t 24), (.t 25)], none⟩,
  ⟨(some 27), .not (.t 26), none⟩] false
abbrev c7_9 : AC := .reg [⟨(some 4), .mv (.k (.c .nil)), none⟩,
  ⟨(some 5), .mv (.k (.c .nil)), none⟩,
  ⟨(some 6), .mv (.k (.I 7)), none⟩] false
abbrev c7_10 : AC := .seq c7_9 .ret
abbrev c7_11 : AC := .cond (.t 27) c7_10 .skip
abbrev c7_12 : AC := .seq c7_8 c7_11
abbrev c7_13 : AC := .reg [⟨(some 28), .mv (.t 7), none⟩,
  ⟨(some 29), .len (.t 28), none⟩,
  ⟨(some 30), .bin .sub (.t 29) (.k (.I 1)), none⟩,
  ⟨(some 9), .mv (.t 30), none⟩] false
abbrev c7_14 : AC := .reg [⟨(some 31), .mv (.t 9), none⟩,
  ⟨(some 32), .bin .geq (.t 31) (.k (.I 0)), none⟩] false
abbrev c7_15 : AC := .cond (.t 32) .skip (.exit 0)
abbrev c7_16 : AC := .seq c7_14 c7_15
abbrev c7_17 : AC := .reg [⟨(some 35), .mv (.t 7), none⟩,
  ⟨(some 36), .mv (.t 9), none⟩,
  ⟨(some 37), .call 19 [(.t 35), (.t 36)], none⟩,
  ⟨(some 10), .mv (.t 37), none⟩] false
abbrev c7_18 : AC := .reg [⟨(some 38), .mv (.t 0), none⟩,
  ⟨(some 39), .mv (.t 1), none⟩,
  ⟨(some 40), .mv (.t 10), none⟩,
  ⟨(some 41), .mv (.t 8), none⟩,
  ⟨(some 42), .call 18 [(.t 38), (.t 39), (.t 40), (.t 41)], none⟩] false
abbrev c7_19 : AC := .reg [⟨(some 43), .mv (.t 10), none⟩,
  ⟨(some 7), .mv (.t 43), none⟩] false
abbrev c7_20 : AC := .cond (.t 42) c7_19 .skip
abbrev c7_21 : AC := .seq c7_18 c7_20
abbrev c7_22 : AC := .seq c7_17 c7_21
abbrev c7_23 : AC := .block 1 c7_22
abbrev c7_24 : AC := .reg [⟨(some 33), .mv (.t 9), none⟩,
  ⟨(some 34), .bin .sub (.t 33) (.k (.I 1)), none⟩,
  ⟨(some 9), .mv (.t 34), none⟩] false
abbrev c7_25 : AC := .seq c7_23 c7_24
abbrev c7_26 : AC := .seq c7_16 c7_25
abbrev c7_27 : AC := .loop c7_26
abbrev c7_28 : AC := .block 0 c7_27
abbrev c7_29 : AC := .seq c7_13 c7_28
abbrev c7_30 : AC := .reg [⟨(some 44), .mv (.t 8), none⟩,
  ⟨(some 45), .len (.t 44), none⟩,
  ⟨(some 46), .bin .sub (.t 45) (.k (.I 1)), none⟩,
  ⟨(some 11), .mv (.t 46), none⟩] false
abbrev c7_31 : AC := .reg [⟨(some 47), .mv (.t 11), none⟩,
  ⟨(some 48), .bin .geq (.t 47) (.k (.I 0)), none⟩] false
abbrev c7_32 : AC := .cond (.t 48) .skip (.exit 2)
abbrev c7_33 : AC := .seq c7_31 c7_32
abbrev c7_34 : AC := .reg [⟨(some 51), .mv (.t 8), none⟩,
  ⟨(some 52), .mv (.t 11), none⟩,
  ⟨(some 53), .call 19 [(.t 51), (.t 52)], none⟩,
  ⟨(some 12), .mv (.t 53), none⟩] false
abbrev c7_35 : AC := .reg [⟨(some 54), .mv (.t 0), none⟩,
  ⟨(some 55), .mv (.t 1), none⟩,
  ⟨(some 56), .mv (.t 7), none⟩,
  ⟨(some 57), .mv (.t 12), none⟩,
  ⟨(some 58), .call 18 [(.t 54), (.t 55), (.t 56), (.t 57)], none⟩] false
abbrev c7_36 : AC := .reg [⟨(some 59), .mv (.t 12), none⟩,
  ⟨(some 8), .mv (.t 59), none⟩] false
abbrev c7_37 : AC := .cond (.t 58) c7_36 .skip
abbrev c7_38 : AC := .seq c7_35 c7_37
abbrev c7_39 : AC := .seq c7_34 c7_38
abbrev c7_40 : AC := .block 3 c7_39
abbrev c7_41 : AC := .reg [⟨(some 49), .mv (.t 11), none⟩,
  ⟨(some 50), .bin .sub (.t 49) (.k (.I 1)), none⟩,
  ⟨(some 11), .mv (.t 50), none⟩] false
abbrev c7_42 : AC := .seq c7_40 c7_41
abbrev c7_43 : AC := .seq c7_33 c7_42
abbrev c7_44 : AC := .loop c7_43
abbrev c7_45 : AC := .block 2 c7_44
abbrev c7_46 : AC := .seq c7_30 c7_45
abbrev c7_47 : AC := .reg [⟨(some 60), .mv (.t 7), none⟩,
  ⟨(some 61), .mv (.t 8), none⟩,
  ⟨(some 4), .mv (.t 60), none⟩,
  ⟨(some 5), .mv (.t 61), none⟩,
  ⟨(some 6), .mv (.k (.I 0)), none⟩] false
abbrev c7_48 : AC := .seq c7_47 .ret
abbrev c7_49 : AC := .seq c7_46 c7_48
abbrev c7_50 : AC := .seq c7_29 c7_49
abbrev c7_51 : AC := .seq c7_12 c7_50
abbrev c7_52 : AC := .seq c7_7 c7_51
abbrev c7_53 : AC := .seq c7_6 c7_52
abbrev c7_54 : AC := .seq c7_1 c7_53
abbrev c7 : AC := c7_54
theorem code7 : fnCode Try.prog 7 = some (c7, [4, 5, 6], 62) := by kernel_rfl
/- coinage/consecutive.Valid -/
abbrev c16_1 : AC := .reg [⟨(some 4), .mv (.k (.B false)), none⟩] false
abbrev c16_2 : AC := .reg [⟨(some 9), .mv (.t 0), none⟩,
  ⟨(some 10), .bin .lss (.t 9) (.k (.I 0)), none⟩,
  ⟨(some 11), .mv (.t 10), none⟩,
  ⟨(some 12), .mv (.t 0), (some (11, false))⟩,
  ⟨(some 13), .bin .gtr (.t 12) (.k (.I 7)), (some (11, false))⟩,
  ⟨(some 14), .pick (.t 11) (.k (.B true)) (.t 13), none⟩,
  ⟨(some 15), .mv (.t 14), none⟩,
  ⟨(some 16), .mv (.t 1), (some (15, false))⟩,
  ⟨(some 17), .len (.t 16), (some (15, false))⟩,
  ⟨(some 18), .bin .gtr (.t 17) (.k (.I 16)), (some (15, false))⟩,
  ⟨(some 19), .pick (.t 15) (.k (.B true)) (.t 18), none⟩] false
abbrev c16_3 : AC := .reg [⟨(some 4), .mv (.k (.B false)), none⟩] false
abbrev c16_4 : AC := .seq c16_3 .ret
abbrev c16_5 : AC := .cond (.t 19) c16_4 .skip
abbrev c16_6 : AC := .seq c16_2 c16_5
abbrev c16_7 : AC := .reg [⟨(some 20), .mv (.t 1), none⟩,
  ⟨(some 21), .len (.t 20), none⟩,
  ⟨(some 22), .mv (.k (.I 0)), none⟩] false
abbrev c16_8 : AC := .reg [⟨(some 23), .bin .lss (.t 22) (.t 21), none⟩] false
abbrev c16_9 : AC := .cond (.t 23) .skip (.exit 0)
abbrev c16_10 : AC := .reg [⟨(some 24), .iad 1 (.t 20) (.t 22), none⟩,
  ⟨(some 25), .ld none (.t 24), none⟩,
  ⟨(some 6), .mv (.t 25), none⟩] false
abbrev c16_11 : AC := .reg [⟨(some 26), .mv (.t 6), none⟩,
  ⟨(some 27), .len (.t 26), none⟩,
  ⟨(some 28), .mv (.k (.I 0)), none⟩] false
abbrev c16_12 : AC := .reg [⟨(some 29), .bin .lss (.t 28) (.t 27), none⟩] false
abbrev c16_13 : AC := .cond (.t 29) .skip (.exit 2)
abbrev c16_14 : AC := .reg [⟨(some 30), .mv (.t 28), none⟩,
  ⟨(some 31), .iad 1 (.t 26) (.t 28), none⟩,
  ⟨(some 32), .ld none (.t 31), none⟩,
  ⟨(some 7), .mv (.t 30), none⟩,
  ⟨(some 8), .mv (.t 32), none⟩] false
abbrev c16_15 : AC := .reg [⟨(some 33), .mv (.t 8), none⟩,
  ⟨(some 34), .bin .lss (.t 33) (.k (.I 0)), none⟩,
  ⟨(some 35), .mv (.t 34), none⟩,
  ⟨(some 36), .mv (.t 8), (some (35, false))⟩,
  ⟨(some 37), .mv (.t 0), (some (35, false))⟩,
  ⟨(some 38), .bin .geq (.t 36) (.t 37), (some (35, false))⟩,
  ⟨(some 39), .pick (.t 35) (.k (.B true)) (.t 38), none⟩,
  ⟨(some 40), .mv (.t 39), none⟩,
  ⟨(some 41), .mv (.t 7), (some (40, false))⟩,
  ⟨(some 42), .bin .gtr (.t 41) (.k (.I 0)), (some (40, false))⟩,
  ⟨(some 43), .mv (.t 42), (some (40, false))⟩,
  ⟨(some 44), .mv (.t 8), (some (43, true))⟩,
  ⟨(some 45), .mv (.t 6), (some (43, true))⟩,
  ⟨(some 46), .mv (.t 7), (some (43, true))⟩,
  ⟨(some 47), .bin .sub (.t 46) (.k (.I 1)), (some (43, true))⟩,
  ⟨(some 48), .iad 1 (.t 45) (.t 47), (some (43, true))⟩,
  ⟨(some 49), .ld none (.t 48), (some (43, true))⟩,
  ⟨(some 50), .bin .leq (.t 44) (.t 49), (some (43, true))⟩,
  ⟨(some 51), .pick (.t 43) (.t 50) (.k (.B false)), (some (40, false))⟩,
  ⟨(some 52), .pick (.t 40) (.k (.B true)) (.t 51), none⟩] false
abbrev c16_16 : AC := .reg [⟨(some 4), .mv (.k (.B false)), none⟩] false
abbrev c16_17 : AC := .seq c16_16 .ret
abbrev c16_18 : AC := .cond (.t 52) c16_17 .skip
abbrev c16_19 : AC := .seq c16_15 c16_18
abbrev c16_20 : AC := .seq c16_14 c16_19
abbrev c16_21 : AC := .block 3 c16_20
abbrev c16_22 : AC := .reg [⟨(some 53), .bin .add (.t 28) (.k (.I 1)), none⟩,
  ⟨(some 28), .mv (.t 53), none⟩] false
abbrev c16_23 : AC := .seq c16_21 c16_22
abbrev c16_24 : AC := .seq c16_13 c16_23
abbrev c16_25 : AC := .seq c16_12 c16_24
abbrev c16_26 : AC := .loop c16_25
abbrev c16_27 : AC := .block 2 c16_26
abbrev c16_28 : AC := .seq c16_11 c16_27
abbrev c16_29 : AC := .seq c16_10 c16_28
abbrev c16_30 : AC := .block 1 c16_29
abbrev c16_31 : AC := .reg [⟨(some 54), .bin .add (.t 22) (.k (.I 1)), none⟩,
  ⟨(some 22), .mv (.t 54), none⟩] false
abbrev c16_32 : AC := .seq c16_30 c16_31
abbrev c16_33 : AC := .seq c16_9 c16_32
abbrev c16_34 : AC := .seq c16_8 c16_33
abbrev c16_35 : AC := .loop c16_34
abbrev c16_36 : AC := .block 0 c16_35
abbrev c16_37 : AC := .seq c16_7 c16_36
abbrev c16_38 : AC := .reg [⟨(some 4), .mv (.k (.B true)), none⟩] false
abbrev c16_39 : AC := .seq c16_38 .ret
abbrev c16_40 : AC := .seq c16_37 c16_39
abbrev c16_41 : AC := .seq c16_6 c16_40
abbrev c16_42 : AC := .seq c16_1 c16_41
abbrev c16 : AC := c16_42
theorem code16 : fnCode Try.prog 16 = some (c16, [4], 55) := by kernel_rfl
/- coinage/obstruction.Kind -/
abbrev c14_1 : AC := .reg [⟨(some 4), .mv (.k (.I 0)), none⟩] false
abbrev c14_2 : AC := .reg [⟨(some 8), .mv (.t 0), none⟩,
  ⟨(some 9), .mv (.t 1), none⟩,
  ⟨(some 10), .call 16 [(.t 8), (.t 9)], none⟩,
  ⟨(some 11), .not (.t 10), none⟩,
  ⟨(some 12), .mv (.t 11), none⟩,
  ⟨(some 13), .mv (.t 0), (some (12, false))⟩,
  ⟨(some 14), .mv (.t 1), (some (12, false))⟩,
  ⟨(some 15), .mv (.t 1), (some (12, false))⟩,
  ⟨(some 16), .len (.t 15), (some (12, false))⟩,
  ⟨(some 17), .call 17 [(.t 16)], (some (12, false))⟩,
  ⟨(some 18), .mv (.t 0), (some (12, false))⟩,
  ⟨(some 19), .call 17 [(.t 18)], (some (12, false))⟩,
  ⟨(some 20), .call 9 [(.t 13), (.t 14), (.t 17), (.t 19)], (some (12, false))⟩,
  ⟨(some 21), .not (.t 20), (some (12, false))⟩,
  ⟨(some 22), .pick (.t 12) (.k (.B true)) (.t 21), none⟩] false
abbrev c14_3 : AC := .reg [⟨(some 4), .mv (.k (.I 0)), none⟩] false
abbrev c14_4 : AC := .seq c14_3 .ret
abbrev c14_5 : AC := .cond (.t 22) c14_4 .skip
abbrev c14_6 : AC := .seq c14_2 c14_5
abbrev c14_7 : AC := .reg [⟨(some 23), .mv (.t 0), none⟩,
  ⟨(some 24), .mks 3 1 8 [(.sc (.int .i64 0))] (.t 23) (.t 23), none⟩,
  ⟨(some 5), .mv (.t 24), none⟩] false
abbrev c14_8 : AC := .reg [⟨(some 25), .mv (.t 1), none⟩,
  ⟨(some 26), .len (.t 25), none⟩,
  ⟨(some 27), .mv (.k (.I 0)), none⟩] false
abbrev c14_9 : AC := .reg [⟨(some 28), .bin .lss (.t 27) (.t 26), none⟩] false
abbrev c14_10 : AC := .cond (.t 28) .skip (.exit 0)
abbrev c14_11 : AC := .reg [⟨(some 29), .iad 1 (.t 25) (.t 27), none⟩,
  ⟨(some 30), .ld none (.t 29), none⟩,
  ⟨(some 7), .mv (.t 30), none⟩] false
abbrev c14_12 : AC := .reg [⟨(some 31), .mv (.t 7), none⟩,
  ⟨(some 32), .len (.t 31), none⟩,
  ⟨(some 33), .bin .neq (.t 32) (.k (.I 2)), none⟩] false
abbrev c14_13 : AC := .reg [⟨(some 4), .mv (.k (.I 2)), none⟩] false
abbrev c14_14 : AC := .seq c14_13 .ret
abbrev c14_15 : AC := .cond (.t 33) c14_14 .skip
abbrev c14_16 : AC := .seq c14_12 c14_15
abbrev c14_17 : AC := .reg [⟨(some 34), .mv (.t 5), none⟩,
  ⟨(some 35), .mv (.t 7), none⟩,
  ⟨(some 36), .iad 1 (.t 35) (.k (.I 0)), none⟩,
  ⟨(some 37), .ld none (.t 36), none⟩,
  ⟨(some 38), .iad 1 (.t 34) (.t 37), none⟩,
  ⟨(some 39), .ld none (.t 38), none⟩,
  ⟨(some 40), .bin .add (.t 39) (.k (.I 1)), none⟩,
  ⟨(some 41), .iad 1 (.t 34) (.t 37), none⟩,
  ⟨none, .st none (.t 41) (.t 40), none⟩] false
abbrev c14_18 : AC := .reg [⟨(some 42), .mv (.t 5), none⟩,
  ⟨(some 43), .mv (.t 7), none⟩,
  ⟨(some 44), .iad 1 (.t 43) (.k (.I 1)), none⟩,
  ⟨(some 45), .ld none (.t 44), none⟩,
  ⟨(some 46), .iad 1 (.t 42) (.t 45), none⟩,
  ⟨(some 47), .ld none (.t 46), none⟩,
  ⟨(some 48), .bin .add (.t 47) (.k (.I 1)), none⟩,
  ⟨(some 49), .iad 1 (.t 42) (.t 45), none⟩,
  ⟨none, .st none (.t 49) (.t 48), none⟩] false
abbrev c14_19 : AC := .seq c14_17 c14_18
abbrev c14_20 : AC := .seq c14_16 c14_19
abbrev c14_21 : AC := .seq c14_11 c14_20
abbrev c14_22 : AC := .block 1 c14_21
abbrev c14_23 : AC := .reg [⟨(some 50), .bin .add (.t 27) (.k (.I 1)), none⟩,
  ⟨(some 27), .mv (.t 50), none⟩] false
abbrev c14_24 : AC := .seq c14_22 c14_23
abbrev c14_25 : AC := .seq c14_10 c14_24
abbrev c14_26 : AC := .seq c14_9 c14_25
abbrev c14_27 : AC := .loop c14_26
abbrev c14_28 : AC := .block 0 c14_27
abbrev c14_29 : AC := .seq c14_8 c14_28
abbrev c14_30 : AC := .reg [⟨(some 51), .mv (.t 5), none⟩,
  ⟨(some 52), .call 25 [(.t 51), (.k (.fn 26 []))], none⟩] false
abbrev c14_31 : AC := .reg [⟨(some 4), .mv (.k (.I 2)), none⟩] false
abbrev c14_32 : AC := .seq c14_31 .ret
abbrev c14_33 : AC := .cond (.t 52) c14_32 .skip
abbrev c14_34 : AC := .seq c14_30 c14_33
abbrev c14_35 : AC := .reg [⟨(some 4), .mv (.k (.I 1)), none⟩] false
abbrev c14_36 : AC := .seq c14_35 .ret
abbrev c14_37 : AC := .seq c14_34 c14_36
abbrev c14_38 : AC := .seq c14_29 c14_37
abbrev c14_39 : AC := .seq c14_7 c14_38
abbrev c14_40 : AC := .seq c14_6 c14_39
abbrev c14_41 : AC := .seq c14_1 c14_40
abbrev c14 : AC := c14_41
theorem code14 : fnCode Try.prog 14 = some (c14, [4], 53) := by kernel_rfl
/- coinage/coinagebase.Ints -/
abbrev c13_1 : AC := .reg [⟨(some 4), .mv (.k (.B false)), none⟩] false
abbrev c13_2 : AC := .reg [⟨(some 6), .mv (.t 0), none⟩,
  ⟨(some 7), .len (.t 6), none⟩,
  ⟨(some 8), .mv (.t 1), none⟩,
  ⟨(some 9), .len (.t 8), none⟩,
  ⟨(some 10), .bin .neq (.t 7) (.t 9), none⟩] false
abbrev c13_3 : AC := .reg [⟨(some 4), .mv (.k (.B false)), none⟩] false
abbrev c13_4 : AC := .seq c13_3 .ret
abbrev c13_5 : AC := .cond (.t 10) c13_4 .skip
abbrev c13_6 : AC := .seq c13_2 c13_5
abbrev c13_7 : AC := .reg [⟨(some 5), .mv (.k (.I 0)), none⟩] false
abbrev c13_8 : AC := .reg [⟨(some 11), .mv (.t 5), none⟩,
  ⟨(some 12), .mv (.t 0), none⟩,
  ⟨(some 13), .len (.t 12), none⟩,
  ⟨(some 14), .bin .lss (.t 11) (.t 13), none⟩] false
abbrev c13_9 : AC := .cond (.t 14) .skip (.exit 0)
abbrev c13_10 : AC := .seq c13_8 c13_9
abbrev c13_11 : AC := .regD [(⟨(some 17), .mv (.t 0), none⟩, [0]),
  (⟨(some 18), .mv (.t 5), none⟩, [5]),
  (⟨(some 19), .iad 1 (.t 17) (.t 18), none⟩, [17, 18]),
  (⟨(some 20), .ld none (.t 19), none⟩, [19]),
  (⟨(some 21), .mv (.t 1), none⟩, [1]),
  (⟨(some 22), .mv (.t 5), none⟩, [5]),
  (⟨(some 23), .iad 1 (.t 21) (.t 22), none⟩, [21, 22]),
  (⟨(some 24), .ld none (.t 23), none⟩, [23]),
  (⟨(some 25), .bin .neq (.t 20) (.t 24), none⟩, [20, 24])]
abbrev c13_12 : AC := .reg [⟨(some 4), .mv (.k (.B false)), none⟩] false
abbrev c13_13 : AC := .seq c13_12 .ret
abbrev c13_14 : AC := .cond (.t 25) c13_13 .skip
abbrev c13_15 : AC := .seq c13_11 c13_14
abbrev c13_16 : AC := .block 1 c13_15
abbrev c13_17 : AC := .reg [⟨(some 15), .mv (.t 5), none⟩,
  ⟨(some 16), .bin .add (.t 15) (.k (.I 1)), none⟩,
  ⟨(some 5), .mv (.t 16), none⟩] false
abbrev c13_18 : AC := .seq c13_16 c13_17
abbrev c13_19 : AC := .seq c13_10 c13_18
abbrev c13_20 : AC := .loop c13_19
abbrev c13_21 : AC := .block 0 c13_20
abbrev c13_22 : AC := .seq c13_7 c13_21
abbrev c13_23 : AC := .reg [⟨(some 4), .mv (.k (.B true)), none⟩] false
abbrev c13_24 : AC := .seq c13_23 .ret
abbrev c13_25 : AC := .seq c13_22 c13_24
abbrev c13_26 : AC := .seq c13_6 c13_25
abbrev c13_27 : AC := .seq c13_1 c13_26
abbrev c13 : AC := c13_27
theorem code13 : fnCode Try.prog 13 = some (c13, [4], 26) := by kernel_rfl
/- coinage/consecutive.First -/
abbrev c20_1 : AC := .reg [⟨(some 4), .mv (.k (.c .nil)), none⟩,
  ⟨(some 5), .mv (.k (.I 0)), none⟩] false
abbrev c20_2 : AC := .reg [⟨(some 8), .mv (.t 0), none⟩,
  ⟨(some 9), .mv (.t 1), none⟩,
  ⟨(some 10), .call 16 [(.t 8), (.t 9)], none⟩,
  ⟨(some 11), .not (.t 10), none⟩] false
abbrev c20_3 : AC := .reg [⟨(some 4), .mv (.k (.c .nil)), none⟩,
  ⟨(some 5), .mv (.k (.I 1)), none⟩] false
abbrev c20_4 : AC := .seq c20_3 .ret
abbrev c20_5 : AC := .cond (.t 11) c20_4 .skip
abbrev c20_6 : AC := .seq c20_2 c20_5
abbrev c20_7 : AC := .reg [⟨(some 6), .alloc 25 [(.c .nil)], none⟩] false
abbrev c20_8 : AC := .reg [⟨(some 7), .alloc 4 [(.B false)], none⟩,
  ⟨none, .st none (.t 7) (.k (.B false)), none⟩] false
abbrev c20_9 : AC := .reg [⟨(some 12), .mv (.t 0), none⟩,
  ⟨(some 13), .mv (.t 1), none⟩,
  ⟨(some 14), .mkfn 31 [(.t 6), (.t 7)], none⟩,
  ⟨(some 15), .call 30 [(.t 12), (.t 13), (.t 14)], none⟩] false
abbrev c20_10 : AC := .reg [⟨(some 16), .ld none (.t 7), none⟩,
  ⟨(some 17), .not (.t 16), none⟩] false
abbrev c20_11 : AC := .reg [⟨(some 4), .mv (.k (.c .nil)), none⟩,
  ⟨(some 5), .mv (.k (.I 7)), none⟩] false
abbrev c20_12 : AC := .seq c20_11 .ret
abbrev c20_13 : AC := .cond (.t 17) c20_12 .skip
abbrev c20_14 : AC := .seq c20_10 c20_13
abbrev c20_15 : AC := .reg [⟨(some 18), .ld none (.t 6), none⟩,
  ⟨(some 4), .mv (.t 18), none⟩,
  ⟨(some 5), .mv (.k (.I 0)), none⟩] false
abbrev c20_16 : AC := .seq c20_15 .ret
abbrev c20_17 : AC := .seq c20_14 c20_16
abbrev c20_18 : AC := .seq c20_9 c20_17
abbrev c20_19 : AC := .seq c20_8 c20_18
abbrev c20_20 : AC := .seq c20_7 c20_19
abbrev c20_21 : AC := .seq c20_6 c20_20
abbrev c20_22 : AC := .seq c20_1 c20_21
abbrev c20 : AC := c20_22
theorem code20 : fnCode Try.prog 20 = some (c20, [4, 5], 19) := by kernel_rfl
/- coinage/coinagebase.Table -/
abbrev c15_1 : AC := .reg [⟨(some 4), .mv (.k (.B false)), none⟩] false
abbrev c15_2 : AC := .reg [⟨(some 6), .mv (.t 0), none⟩,
  ⟨(some 7), .bin .lss (.t 6) (.k (.I 0)), none⟩,
  ⟨(some 8), .mv (.t 7), none⟩,
  ⟨(some 9), .mv (.t 0), (some (8, false))⟩,
  ⟨(some 10), .bin .gtr (.t 9) (.k (.I 7)), (some (8, false))⟩,
  ⟨(some 11), .pick (.t 8) (.k (.B true)) (.t 10), none⟩,
  ⟨(some 12), .mv (.t 11), none⟩,
  ⟨(some 13), .mv (.t 1), (some (12, false))⟩,
  ⟨(some 14), .len (.t 13), (some (12, false))⟩,
  ⟨(some 15), .bin .gtr (.t 14) (.k (.I 16)), (some (12, false))⟩,
  ⟨(some 16), .pick (.t 12) (.k (.B true)) (.t 15), none⟩] false
abbrev c15_3 : AC := .reg [⟨(some 4), .mv (.k (.B false)), none⟩] false
abbrev c15_4 : AC := .seq c15_3 .ret
abbrev c15_5 : AC := .cond (.t 16) c15_4 .skip
abbrev c15_6 : AC := .seq c15_2 c15_5
abbrev c15_7 : AC := .reg [⟨(some 5), .mv (.k (.I 0)), none⟩] false
abbrev c15_8 : AC := .reg [⟨(some 17), .mv (.t 5), none⟩,
  ⟨(some 18), .mv (.t 1), none⟩,
  ⟨(some 19), .len (.t 18), none⟩,
  ⟨(some 20), .bin .lss (.t 17) (.t 19), none⟩] false
abbrev c15_9 : AC := .cond (.t 20) .skip (.exit 0)
abbrev c15_10 : AC := .seq c15_8 c15_9
abbrev c15_11 : AC := .reg [⟨(some 23), .mv (.t 1), none⟩,
  ⟨(some 24), .mv (.t 5), none⟩,
  ⟨(some 25), .iad 1 (.t 23) (.t 24), none⟩,
  ⟨(some 26), .ld none (.t 25), none⟩,
  ⟨(some 27), .mv (.t 0), none⟩,
  ⟨(some 28), .bin .sub (.t 27) (.k (.I 1)), none⟩,
  ⟨(some 29), .call 27 [(.t 26), (.k (.I 0)), (.t 28)], none⟩,
  ⟨(some 30), .not (.t 29), none⟩] false
abbrev c15_12 : AC := .reg [⟨(some 4), .mv (.k (.B false)), none⟩] false
abbrev c15_13 : AC := .seq c15_12 .ret
abbrev c15_14 : AC := .cond (.t 30) c15_13 .skip
abbrev c15_15 : AC := .seq c15_11 c15_14
abbrev c15_16 : AC := .block 1 c15_15
abbrev c15_17 : AC := .reg [⟨(some 21), .mv (.t 5), none⟩,
  ⟨(some 22), .bin .add (.t 21) (.k (.I 1)), none⟩,
  ⟨(some 5), .mv (.t 22), none⟩] false
abbrev c15_18 : AC := .seq c15_16 c15_17
abbrev c15_19 : AC := .seq c15_10 c15_18
abbrev c15_20 : AC := .loop c15_19
abbrev c15_21 : AC := .block 0 c15_20
abbrev c15_22 : AC := .seq c15_7 c15_21
abbrev c15_23 : AC := .reg [⟨(some 4), .mv (.k (.B true)), none⟩] false
abbrev c15_24 : AC := .seq c15_23 .ret
abbrev c15_25 : AC := .seq c15_22 c15_24
abbrev c15_26 : AC := .seq c15_6 c15_25
abbrev c15_27 : AC := .seq c15_1 c15_26
abbrev c15 : AC := c15_27
theorem code15 : fnCode Try.prog 15 = some (c15, [4], 31) := by kernel_rfl
/- coinage/coinagebase.Ascending -/
abbrev c27_1 : AC := .reg [⟨(some 6), .mv (.k (.B false)), none⟩] false
abbrev c27_2 : AC := .reg [⟨(some 7), .mv (.k (.I 0)), none⟩] false
abbrev c27_3 : AC := .reg [⟨(some 8), .mv (.t 7), none⟩,
  ⟨(some 9), .mv (.t 0), none⟩,
  ⟨(some 10), .len (.t 9), none⟩,
  ⟨(some 11), .bin .lss (.t 8) (.t 10), none⟩] false
abbrev c27_4 : AC := .cond (.t 11) .skip (.exit 0)
abbrev c27_5 : AC := .seq c27_3 c27_4
abbrev c27_6 : AC := .regD [(⟨(some 14), .mv (.t 0), none⟩, [0]),
  (⟨(some 15), .mv (.t 7), none⟩, [7]),
  (⟨(some 16), .iad 1 (.t 14) (.t 15), none⟩, [14, 15]),
  (⟨(some 17), .ld none (.t 16), none⟩, [16]),
  (⟨(some 18), .mv (.t 1), none⟩, [1]),
  (⟨(some 19), .bin .lss (.t 17) (.t 18), none⟩, [17, 18]),
  (⟨(some 20), .mv (.t 19), none⟩, [19]),
  (⟨(some 21), .mv (.t 0), (some (20, false))⟩, [0, 20]),
  (⟨(some 22), .mv (.t 7), (some (20, false))⟩, [7, 20]),
  (⟨(some 23), .iad 1 (.t 21) (.t 22), (some (20, false))⟩, [21, 22, 20]),
  (⟨(some 24), .ld none (.t 23), (some (20, false))⟩, [23, 20]),
  (⟨(some 25), .mv (.t 2), (some (20, false))⟩, [2, 20]),
  (⟨(some 26), .bin .gtr (.t 24) (.t 25), (some (20, false))⟩, [24, 25, 20]),
  (⟨(some 27), .pick (.t 20) (.k (.B true)) (.t 26), none⟩, [20, 26]),
  (⟨(some 28), .mv (.t 27), none⟩, [27]),
  (⟨(some 29), .mv (.t 7), (some (28, false))⟩, [7, 28]),
  (⟨(some 30), .bin .gtr (.t 29) (.k (.I 0)), (some (28, false))⟩, [29, 28]),
  (⟨(some 31), .mv (.t 30), (some (28, false))⟩, [30, 28]),
  (⟨(some 32), .mv (.t 0), (some (31, true))⟩, [0, 31]),
  (⟨(some 33), .mv (.t 7), (some (31, true))⟩, [7, 31]),
  (⟨(some 34), .iad 1 (.t 32) (.t 33), (some (31, true))⟩, [32, 33, 31]),
  (⟨(some 35), .ld none (.t 34), (some (31, true))⟩, [34, 31]),
  (⟨(some 36), .mv (.t 0), (some (31, true))⟩, [0, 31]),
  (⟨(some 37), .mv (.t 7), (some (31, true))⟩, [7, 31]),
  (⟨(some 38), .bin .sub (.t 37) (.k (.I 1)), (some (31, true))⟩, [37, 31]),
  (⟨(some 39), .iad 1 (.t 36) (.t 38), (some (31, true))⟩, [36, 38, 31]),
  (⟨(some 40), .ld none (.t 39), (some (31, true))⟩, [39, 31]),
  (⟨(some 41), .bin .leq (.t 35) (.t 40), (some (31, true))⟩, [35, 40, 31]),
  (⟨(some 42), .pick (.t 31) (.t 41) (.k (.B false)), (some (28, false))⟩, [31, 41, 28]),
  (⟨(some 43), .pick (.t 28) (.k (.B true)) (.t 42), none⟩, [28, 42])]
abbrev c27_7 : AC := .reg [⟨(some 6), .mv (.k (.B false)), none⟩] false
abbrev c27_8 : AC := .seq c27_7 .ret
abbrev c27_9 : AC := .cond (.t 43) c27_8 .skip
abbrev c27_10 : AC := .seq c27_6 c27_9
abbrev c27_11 : AC := .block 1 c27_10
abbrev c27_12 : AC := .reg [⟨(some 12), .mv (.t 7), none⟩,
  ⟨(some 13), .bin .add (.t 12) (.k (.I 1)), none⟩,
  ⟨(some 7), .mv (.t 13), none⟩] false
abbrev c27_13 : AC := .seq c27_11 c27_12
abbrev c27_14 : AC := .seq c27_5 c27_13
abbrev c27_15 : AC := .loop c27_14
abbrev c27_16 : AC := .block 0 c27_15
abbrev c27_17 : AC := .seq c27_2 c27_16
abbrev c27_18 : AC := .reg [⟨(some 6), .mv (.k (.B true)), none⟩] false
abbrev c27_19 : AC := .seq c27_18 .ret
abbrev c27_20 : AC := .seq c27_17 c27_19
abbrev c27_21 : AC := .seq c27_1 c27_20
abbrev c27 : AC := c27_21
theorem code27 : fnCode Try.prog 27 = some (c27, [6], 44) := by kernel_rfl
/- coinage/coinagelaw29.five -/
abbrev c12_1 : AC := .reg [⟨(some 0), .mv (.k (.c .nil)), none⟩] false
abbrev c12_2 : AC := .reg [⟨(some 1), .bslice 3 1 [(.k (.I 0)), (.k (.I 1))], none⟩,
  ⟨(some 2), .bslice 3 1 [(.k (.I 1)), (.k (.I 2))], none⟩,
  ⟨(some 3), .bslice 3 1 [(.k (.I 0)), (.k (.I 1)), (.k (.I 2))], none⟩,
  ⟨(some 4), .bslice 3 1 [(.k (.I 0)), (.k (.I 2))], none⟩,
  ⟨(some 5), .bslice 3 1 [(.k (.I 2)), (.k (.I 3))], none⟩,
  ⟨(some 6), .bslice 25 1 [(.t 1), (.t 2), (.t 3), (.t 4), (.t 5)], none⟩,
  ⟨(some 0), .mv (.t 6), none⟩] false
abbrev c12_3 : AC := .seq c12_2 .ret
abbrev c12_4 : AC := .seq c12_1 c12_3
abbrev c12 : AC := c12_4
theorem code12 : fnCode Try.prog 12 = some (c12, [0], 7) := by kernel_rfl
/- coinage/obstruction.ascending -/
abbrev c41_1 : AC := .reg [⟨(some 4), .mv (.k (.B false)), none⟩] false
abbrev c41_2 : AC := .reg [⟨(some 7), .mv (.t 0), none⟩,
  ⟨(some 8), .len (.t 7), none⟩,
  ⟨(some 9), .mv (.k (.I 0)), none⟩] false
abbrev c41_3 : AC := .reg [⟨(some 10), .bin .lss (.t 9) (.t 8), none⟩] false
abbrev c41_4 : AC := .cond (.t 10) .skip (.exit 0)
abbrev c41_5 : AC := .reg [⟨(some 11), .mv (.t 9), none⟩,
  ⟨(some 12), .iad 1 (.t 7) (.t 9), none⟩,
  ⟨(some 13), .ld none (.t 12), none⟩,
  ⟨(some 5), .mv (.t 11), none⟩,
  ⟨(some 6), .mv (.t 13), none⟩] false
abbrev c41_6 : AC := .reg [⟨(some 14), .mv (.t 6), none⟩,
  ⟨(some 15), .bin .lss (.t 14) (.k (.I 0)), none⟩,
  ⟨(some 16), .mv (.t 15), none⟩,
  ⟨(some 17), .mv (.t 6), (some (16, false))⟩,
  ⟨(some 18), .mv (.t 1), (some (16, false))⟩,
  ⟨(some 19), .bin .geq (.t 17) (.t 18), (some (16, false))⟩,
  ⟨(some 20), .pick (.t 16) (.k (.B true)) (.t 19), none⟩,
  ⟨(some 21), .mv (.t 20), none⟩,
  ⟨(some 22), .mv (.t 5), (some (21, false))⟩,
  ⟨(some 23), .bin .gtr (.t 22) (.k (.I 0)), (some (21, false))⟩,
  ⟨(some 24), .mv (.t 23), (some (21, false))⟩,
  ⟨(some 25), .mv (.t 6), (some (24, true))⟩,
  ⟨(some 26), .mv (.t 0), (some (24, true))⟩,
  ⟨(some 27), .mv (.t 5), (some (24, true))⟩,
  ⟨(some 28), .bin .sub (.t 27) (.k (.I 1)), (some (24, true))⟩,
  ⟨(some 29), .iad 1 (.t 26) (.t 28), (some (24, true))⟩,
  ⟨(some 30), .ld none (.t 29), (some (24, true))⟩,
  ⟨(some 31), .bin .leq (.t 25) (.t 30), (some (24, true))⟩,
  ⟨(some 32), .pick (.t 24) (.t 31) (.k (.B false)), (some (21, false))⟩,
  ⟨(some 33), .pick (.t 21) (.k (.B true)) (.t 32), none⟩] false
abbrev c41_7 : AC := .reg [⟨(some 4), .mv (.k (.B false)), none⟩] false
abbrev c41_8 : AC := .seq c41_7 .ret
abbrev c41_9 : AC := .cond (.t 33) c41_8 .skip
abbrev c41_10 : AC := .seq c41_6 c41_9
abbrev c41_11 : AC := .seq c41_5 c41_10
abbrev c41_12 : AC := .block 1 c41_11
abbrev c41_13 : AC := .reg [⟨(some 34), .bin .add (.t 9) (.k (.I 1)), none⟩,
  ⟨(some 9), .mv (.t 34), none⟩] false
abbrev c41_14 : AC := .seq c41_12 c41_13
abbrev c41_15 : AC := .seq c41_4 c41_14
abbrev c41_16 : AC := .seq c41_3 c41_15
abbrev c41_17 : AC := .loop c41_16
abbrev c41_18 : AC := .block 0 c41_17
abbrev c41_19 : AC := .seq c41_2 c41_18
abbrev c41_20 : AC := .reg [⟨(some 4), .mv (.k (.B true)), none⟩] false
abbrev c41_21 : AC := .seq c41_20 .ret
abbrev c41_22 : AC := .seq c41_19 c41_21
abbrev c41_23 : AC := .seq c41_1 c41_22
abbrev c41 : AC := c41_23
theorem code41 : fnCode Try.prog 41 = some (c41, [4], 35) := by kernel_rfl
/- slices.Index[[]int,int] -/
abbrev c42_1 : AC := .reg [⟨(some 4), .mv (.k (.I 0)), none⟩] false
abbrev c42_2 : AC := .reg [⟨(some 6), .mv (.t 0), none⟩,
  ⟨(some 7), .len (.t 6), none⟩,
  ⟨(some 8), .mv (.k (.I 0)), none⟩] false
abbrev c42_3 : AC := .reg [⟨(some 9), .bin .lss (.t 8) (.t 7), none⟩] false
abbrev c42_4 : AC := .cond (.t 9) .skip (.exit 0)
abbrev c42_5 : AC := .reg [⟨(some 10), .mv (.t 8), none⟩,
  ⟨(some 5), .mv (.t 10), none⟩] false
abbrev c42_6 : AC := .reg [⟨(some 11), .mv (.t 1), none⟩,
  ⟨(some 12), .mv (.t 0), none⟩,
  ⟨(some 13), .mv (.t 5), none⟩,
  ⟨(some 14), .iad 1 (.t 12) (.t 13), none⟩,
  ⟨(some 15), .ld none (.t 14), none⟩,
  ⟨(some 16), .bin .eql (.t 11) (.t 15), none⟩] false
abbrev c42_7 : AC := .reg [⟨(some 17), .mv (.t 5), none⟩,
  ⟨(some 4), .mv (.t 17), none⟩] false
abbrev c42_8 : AC := .seq c42_7 .ret
abbrev c42_9 : AC := .cond (.t 16) c42_8 .skip
abbrev c42_10 : AC := .seq c42_6 c42_9
abbrev c42_11 : AC := .seq c42_5 c42_10
abbrev c42_12 : AC := .block 1 c42_11
abbrev c42_13 : AC := .reg [⟨(some 18), .bin .add (.t 8) (.k (.I 1)), none⟩,
  ⟨(some 8), .mv (.t 18), none⟩] false
abbrev c42_14 : AC := .seq c42_12 c42_13
abbrev c42_15 : AC := .seq c42_4 c42_14
abbrev c42_16 : AC := .seq c42_3 c42_15
abbrev c42_17 : AC := .loop c42_16
abbrev c42_18 : AC := .block 0 c42_17
abbrev c42_19 : AC := .seq c42_2 c42_18
abbrev c42_20 : AC := .reg [⟨(some 4), .mv (.k (.I (-1))), none⟩] false
abbrev c42_21 : AC := .seq c42_20 .ret
abbrev c42_22 : AC := .seq c42_19 c42_21
abbrev c42_23 : AC := .seq c42_1 c42_22
abbrev c42 : AC := c42_23
theorem code42 : fnCode Try.prog 42 = some (c42, [4], 19) := by kernel_rfl
/- coinage/obstruction.without -/
abbrev c19_1 : AC := .reg [⟨(some 4), .mv (.k (.c .nil)), none⟩] false
abbrev c19_2 : AC := .reg [⟨(some 5), .mv (.t 0), none⟩,
  ⟨(some 6), .call 24 [(.t 5)], none⟩,
  ⟨(some 7), .mv (.t 1), none⟩,
  ⟨(some 8), .mv (.t 1), none⟩,
  ⟨(some 9), .bin .add (.t 8) (.k (.I 1)), none⟩,
  ⟨(some 10), .call 29 [(.t 6), (.t 7), (.t 9)], none⟩,
  ⟨(some 4), .mv (.t 10), none⟩] false
abbrev c19_3 : AC := .seq c19_2 .ret
abbrev c19_4 : AC := .seq c19_1 c19_3
abbrev c19 : AC := c19_4
theorem code19 : fnCode Try.prog 19 = some (c19, [4], 11) := by kernel_rfl
/- coinage/obstruction.upTo -/
abbrev c17_1 : AC := .reg [⟨(some 2), .mv (.k (.c .nil)), none⟩] false
abbrev c17_2 : AC := .reg [⟨(some 3), .mv (.k (.c .nil)), none⟩] false
abbrev c17_3 : AC := .reg [⟨(some 5), .mv (.t 0), none⟩,
  ⟨(some 6), .mv (.k (.I 0)), none⟩] false
abbrev c17_4 : AC := .reg [⟨(some 7), .bin .lss (.t 6) (.t 5), none⟩] false
abbrev c17_5 : AC := .cond (.t 7) .skip (.exit 0)
abbrev c17_6 : AC := .reg [⟨(some 8), .mv (.t 6), none⟩,
  ⟨(some 4), .mv (.t 8), none⟩] false
abbrev c17_7 : AC := .reg [⟨(some 9), .mv (.t 3), none⟩,
  ⟨(some 10), .mv (.t 4), none⟩,
  ⟨(some 11), .bslice 3 1 [(.t 10)], none⟩,
  ⟨(some 12), .app 3 1 8 (.t 9) (.t 11), none⟩,
  ⟨(some 3), .mv (.t 12), none⟩] false
abbrev c17_8 : AC := .seq c17_6 c17_7
abbrev c17_9 : AC := .block 1 c17_8
abbrev c17_10 : AC := .reg [⟨(some 13), .bin .add (.t 6) (.k (.I 1)), none⟩,
  ⟨(some 6), .mv (.t 13), none⟩] false
abbrev c17_11 : AC := .seq c17_9 c17_10
abbrev c17_12 : AC := .seq c17_5 c17_11
abbrev c17_13 : AC := .seq c17_4 c17_12
abbrev c17_14 : AC := .loop c17_13
abbrev c17_15 : AC := .block 0 c17_14
abbrev c17_16 : AC := .seq c17_3 c17_15
abbrev c17_17 : AC := .reg [⟨(some 14), .mv (.t 3), none⟩,
  ⟨(some 2), .mv (.t 14), none⟩] false
abbrev c17_18 : AC := .seq c17_17 .ret
abbrev c17_19 : AC := .seq c17_16 c17_18
abbrev c17_20 : AC := .seq c17_2 c17_19
abbrev c17_21 : AC := .seq c17_1 c17_20
abbrev c17 : AC := c17_21
theorem code17 : fnCode Try.prog 17 = some (c17, [2], 15) := by kernel_rfl
/- slices.ContainsFunc[[]int,int] -/
abbrev c25_1 : AC := .reg [⟨(some 4), .mv (.k (.B false)), none⟩] false
abbrev c25_2 : AC := .reg [⟨(some 5), .mv (.t 0), none⟩,
  ⟨(some 6), .mv (.t 1), none⟩,
  ⟨(some 7), .call 40 [(.t 5), (.t 6)], none⟩,
  ⟨(some 8), .bin .geq (.t 7) (.k (.I 0)), none⟩,
  ⟨(some 4), .mv (.t 8), none⟩] false
abbrev c25_3 : AC := .seq c25_2 .ret
abbrev c25_4 : AC := .seq c25_1 c25_3
abbrev c25 : AC := c25_4
theorem code25 : fnCode Try.prog 25 = some (c25, [4], 9) := by kernel_rfl
/- coinage/obstruction.Kind$1 -/
abbrev c26_1 : AC := .reg [⟨(some 2), .mv (.k (.B false)), none⟩] false
abbrev c26_2 : AC := .reg [⟨(some 3), .mv (.t 0), none⟩,
  ⟨(some 4), .bin .neq (.t 3) (.k (.I 2)), none⟩,
  ⟨(some 2), .mv (.t 4), none⟩] false
abbrev c26_3 : AC := .seq c26_2 .ret
abbrev c26_4 : AC := .seq c26_1 c26_3
abbrev c26 : AC := c26_4
theorem code26 : fnCode Try.prog 26 = some (c26, [2], 5) := by kernel_rfl
/- slices.Clone[[]int,int] -/
abbrev c24_1 : AC := .reg [⟨(some 2), .mv (.k (.c .nil)), none⟩] false
abbrev c24_2 : AC := .reg [⟨(some 3), .mv (.t 0), none⟩,
  ⟨(some 4), .isnil false (.t 3), none⟩] false
abbrev c24_3 : AC := .reg [⟨(some 2), .mv (.k (.c .nil)), none⟩] false
abbrev c24_4 : AC := .seq c24_3 .ret
abbrev c24_5 : AC := .cond (.t 4) c24_4 .skip
abbrev c24_6 : AC := .seq c24_2 c24_5
abbrev c24_7 : AC := .reg [⟨(some 5), .bslice 3 1 [], none⟩,
  ⟨(some 6), .mv (.t 0), none⟩,
  ⟨(some 7), .app 3 1 8 (.t 5) (.t 6), none⟩,
  ⟨(some 2), .mv (.t 7), none⟩] false
abbrev c24_8 : AC := .seq c24_7 .ret
abbrev c24_9 : AC := .seq c24_6 c24_8
abbrev c24_10 : AC := .seq c24_1 c24_9
abbrev c24 : AC := c24_10
theorem code24 : fnCode Try.prog 24 = some (c24, [2], 8) := by kernel_rfl
/- coinage/consecutive.visitAll -/
abbrev c30_1 : AC := .reg [⟨(some 6), .mv (.k (.c .nil)), none⟩] false
abbrev c30_2 : AC := .reg [⟨(some 9), .mv (.t 1), none⟩,
  ⟨(some 10), .len (.t 9), none⟩,
  ⟨(some 11), .mv (.k (.I 0)), none⟩] false
abbrev c30_3 : AC := .reg [⟨(some 12), .bin .lss (.t 11) (.t 10), none⟩] false
abbrev c30_4 : AC := .cond (.t 12) .skip (.exit 0)
abbrev c30_5 : AC := .reg [⟨(some 13), .iad 1 (.t 9) (.t 11), none⟩,
  ⟨(some 14), .ld none (.t 13), none⟩,
  ⟨(some 8), .mv (.t 14), none⟩] false
abbrev c30_6 : AC := .reg [⟨(some 15), .mv (.t 6), none⟩,
  ⟨(some 16), .mv (.t 8), none⟩,
  ⟨(some 17), .len (.t 16), none⟩,
  ⟨(some 18), .bslice 3 1 [(.t 17)], none⟩,
  ⟨(some 19), .app 3 1 8 (.t 15) (.t 18), none⟩,
  ⟨(some 6), .mv (.t 19), none⟩] false
abbrev c30_7 : AC := .seq c30_5 c30_6
abbrev c30_8 : AC := .block 1 c30_7
abbrev c30_9 : AC := .reg [⟨(some 20), .bin .add (.t 11) (.k (.I 1)), none⟩,
  ⟨(some 11), .mv (.t 20), none⟩] false
abbrev c30_10 : AC := .seq c30_8 c30_9
abbrev c30_11 : AC := .seq c30_4 c30_10
abbrev c30_12 : AC := .seq c30_3 c30_11
abbrev c30_13 : AC := .loop c30_12
abbrev c30_14 : AC := .block 0 c30_13
abbrev c30_15 : AC := .seq c30_2 c30_14
abbrev c30_16 : AC := .reg [⟨(some 21), .mv (.t 0), none⟩,
  ⟨(some 22), .mv (.t 1), none⟩,
  ⟨(some 23), .mv (.t 6), none⟩,
  ⟨(some 24), .mv (.t 2), none⟩,
  ⟨(some 25), .call 43 [(.t 21), (.t 22), (.k (.c .nil)), (.t 23), (.t 24)], none⟩] false
abbrev c30_17 : AC := .seq c30_15 c30_16
abbrev c30_18 : AC := .seq c30_1 c30_17
abbrev c30 : AC := c30_18
theorem code30 : fnCode Try.prog 30 = some (c30, [], 26) := by kernel_rfl
/- coinage/consecutive.First$1 -/
abbrev c31_1 : AC := .reg [⟨(some 4), .mv (.k (.B false)), none⟩] false
abbrev c31_2 : AC := .reg [⟨(some 5), .mv (.t 0), none⟩,
  ⟨none, .st none (.t 1) (.t 5), none⟩,
  ⟨none, .st none (.t 2) (.k (.B true)), none⟩] false
abbrev c31_3 : AC := .reg [⟨(some 4), .mv (.k (.B false)), none⟩] false
abbrev c31_4 : AC := .seq c31_3 .ret
abbrev c31_5 : AC := .seq c31_2 c31_4
abbrev c31_6 : AC := .seq c31_1 c31_5
abbrev c31 : AC := c31_6
theorem code31 : fnCode Try.prog 31 = some (c31, [4], 6) := by kernel_rfl
/- slices.Contains[[]int,int] -/
abbrev c49_1 : AC := .reg [⟨(some 4), .mv (.k (.B false)), none⟩] false
abbrev c49_2 : AC := .reg [⟨(some 5), .mv (.t 0), none⟩,
  ⟨(some 6), .mv (.t 1), none⟩,
  ⟨(some 7), .call 42 [(.t 5), (.t 6)], none⟩,
  ⟨(some 8), .bin .geq (.t 7) (.k (.I 0)), none⟩,
  ⟨(some 4), .mv (.t 8), none⟩] false
abbrev c49_3 : AC := .seq c49_2 .ret
abbrev c49_4 : AC := .seq c49_1 c49_3
abbrev c49 : AC := c49_4
theorem code49 : fnCode Try.prog 49 = some (c49, [4], 9) := by kernel_rfl
/- slices.IndexFunc[[]int,int] -/
abbrev c40_1 : AC := .reg [⟨(some 4), .mv (.k (.I 0)), none⟩] false
abbrev c40_2 : AC := .reg [⟨(some 6), .mv (.t 0), none⟩,
  ⟨(some 7), .len (.t 6), none⟩,
  ⟨(some 8), .mv (.k (.I 0)), none⟩] false
abbrev c40_3 : AC := .reg [⟨(some 9), .bin .lss (.t 8) (.t 7), none⟩] false
abbrev c40_4 : AC := .cond (.t 9) .skip (.exit 0)
abbrev c40_5 : AC := .reg [⟨(some 10), .mv (.t 8), none⟩,
  ⟨(some 5), .mv (.t 10), none⟩] false
abbrev c40_6 : AC := .reg [⟨(some 11), .mv (.t 1), none⟩,
  ⟨(some 12), .mv (.t 0), none⟩,
  ⟨(some 13), .mv (.t 5), none⟩,
  ⟨(some 14), .iad 1 (.t 12) (.t 13), none⟩,
  ⟨(some 15), .ld none (.t 14), none⟩,
  ⟨(some 16), .callv (.t 11) [(.t 15)], none⟩] false
abbrev c40_7 : AC := .reg [⟨(some 17), .mv (.t 5), none⟩,
  ⟨(some 4), .mv (.t 17), none⟩] false
abbrev c40_8 : AC := .seq c40_7 .ret
abbrev c40_9 : AC := .cond (.t 16) c40_8 .skip
abbrev c40_10 : AC := .seq c40_6 c40_9
abbrev c40_11 : AC := .seq c40_5 c40_10
abbrev c40_12 : AC := .block 1 c40_11
abbrev c40_13 : AC := .reg [⟨(some 18), .bin .add (.t 8) (.k (.I 1)), none⟩,
  ⟨(some 8), .mv (.t 18), none⟩] false
abbrev c40_14 : AC := .seq c40_12 c40_13
abbrev c40_15 : AC := .seq c40_4 c40_14
abbrev c40_16 : AC := .seq c40_3 c40_15
abbrev c40_17 : AC := .loop c40_16
abbrev c40_18 : AC := .block 0 c40_17
abbrev c40_19 : AC := .seq c40_2 c40_18
abbrev c40_20 : AC := .reg [⟨(some 4), .mv (.k (.I (-1))), none⟩] false
abbrev c40_21 : AC := .seq c40_20 .ret
abbrev c40_22 : AC := .seq c40_19 c40_21
abbrev c40_23 : AC := .seq c40_1 c40_22
abbrev c40 : AC := c40_23
theorem code40 : fnCode Try.prog 40 = some (c40, [4], 19) := by kernel_rfl
/- coinage/consecutive.walk -/
abbrev c43_1 : AC := .reg [⟨(some 10), .mv (.k (.B false)), none⟩] false
abbrev c43_2 : AC := .reg [⟨(some 16), .mv (.t 2), none⟩,
  ⟨(some 17), .len (.t 16), none⟩,
  ⟨(some 18), .mv (.t 0), none⟩,
  ⟨(some 19), .bin .eql (.t 17) (.t 18), none⟩] false
abbrev c43_3 : AC := .reg [⟨(some 20), .mv (.t 4), none⟩,
  ⟨(some 21), .mv (.t 2), none⟩,
  ⟨(some 22), .callv (.t 20) [(.t 21)], none⟩,
  ⟨(some 10), .mv (.t 22), none⟩] false
abbrev c43_4 : AC := .seq c43_3 .ret
abbrev c43_5 : AC := .cond (.t 19) c43_4 .skip
abbrev c43_6 : AC := .seq c43_2 c43_5
abbrev c43_7 : AC := .reg [⟨(some 23), .mv (.t 0), none⟩,
  ⟨(some 24), .mv (.k (.I 0)), none⟩] false
abbrev c43_8 : AC := .reg [⟨(some 25), .bin .lss (.t 24) (.t 23), none⟩] false
abbrev c43_9 : AC := .cond (.t 25) .skip (.exit 0)
abbrev c43_10 : AC := .reg [⟨(some 26), .mv (.t 24), none⟩,
  ⟨(some 11), .mv (.t 26), none⟩] false
abbrev c43_11 : AC := .reg [⟨(some 27), .mv (.t 2), none⟩,
  ⟨(some 28), .mv (.t 11), none⟩,
  ⟨(some 29), .call 49 [(.t 27), (.t 28)], none⟩] false
abbrev c43_12 : AC := .cond (.t 29) (.exit 1) .skip
abbrev c43_13 : AC := .seq c43_11 c43_12
abbrev c43_14 : AC := .reg [⟨(some 30), .mv (.t 3), none⟩,
  ⟨(some 31), .call 24 [(.t 30)], none⟩,
  ⟨(some 12), .mv (.t 31), none⟩,
  ⟨(some 13), .mv (.k (.B true)), none⟩] false
abbrev c43_15 : AC := .reg [⟨(some 32), .mv (.t 1), none⟩,
  ⟨(some 33), .len (.t 32), none⟩,
  ⟨(some 34), .mv (.k (.I 0)), none⟩] false
abbrev c43_16 : AC := .reg [⟨(some 35), .bin .lss (.t 34) (.t 33), none⟩] false
abbrev c43_17 : AC := .cond (.t 35) .skip (.exit 2)
abbrev c43_18 : AC := .reg [⟨(some 36), .mv (.t 34), none⟩,
  ⟨(some 37), .iad 1 (.t 32) (.t 34), none⟩,
  ⟨(some 38), .ld none (.t 37), none⟩,
  ⟨(some 14), .mv (.t 36), none⟩,
  ⟨(some 15), .mv (.t 38), none⟩] false
abbrev c43_19 : AC := .reg [⟨(some 39), .mv (.t 15), none⟩,
  ⟨(some 40), .mv (.t 11), none⟩,
  ⟨(some 41), .call 49 [(.t 39), (.t 40)], none⟩] false
abbrev c43_20 : AC := .reg [⟨(some 42), .mv (.t 12), none⟩,
  ⟨(some 43), .mv (.t 14), none⟩,
  ⟨(some 44), .iad 1 (.t 42) (.t 43), none⟩,
  ⟨(some 45), .ld none (.t 44), none⟩,
  ⟨(some 46), .bin .sub (.t 45) (.k (.I 1)), none⟩,
  ⟨(some 47), .iad 1 (.t 42) (.t 43), none⟩,
  ⟨none, .st none (.t 47) (.t 46), none⟩] false
abbrev c43_21 : AC := .reg [⟨(some 48), .mv (.t 3), none⟩,
  ⟨(some 49), .mv (.t 14), none⟩,
  ⟨(some 50), .iad 1 (.t 48) (.t 49), none⟩,
  ⟨(some 51), .ld none (.t 50), none⟩,
  ⟨(some 52), .bin .gtr (.t 51) (.k (.I 0)), none⟩,
  ⟨(some 53), .mv (.t 52), none⟩,
  ⟨(some 54), .mv (.t 3), (some (53, true))⟩,
  ⟨(some 55), .mv (.t 14), (some (53, true))⟩,
  ⟨(some 56), .iad 1 (.t 54) (.t 55), (some (53, true))⟩,
  ⟨(some 57), .ld none (.t 56), (some (53, true))⟩,
  ⟨(some 58), .mv (.t 15), (some (53, true))⟩,
  ⟨(some 59), .len (.t 58), (some (53, true))⟩,
  ⟨(some 60), .bin .lss (.t 57) (.t 59), (some (53, true))⟩,
  ⟨(some 61), .pick (.t 53) (.t 60) (.k (.B false)), none⟩] false
abbrev c43_22 : AC := .reg [⟨(some 13), .mv (.k (.B false)), none⟩] false
abbrev c43_23 : AC := .cond (.t 61) c43_22 .skip
abbrev c43_24 : AC := .seq c43_21 c43_23
abbrev c43_25 : AC := .cond (.t 41) c43_20 c43_24
abbrev c43_26 : AC := .seq c43_19 c43_25
abbrev c43_27 : AC := .seq c43_18 c43_26
abbrev c43_28 : AC := .block 3 c43_27
abbrev c43_29 : AC := .reg [⟨(some 62), .bin .add (.t 34) (.k (.I 1)), none⟩,
  ⟨(some 34), .mv (.t 62), none⟩] false
abbrev c43_30 : AC := .seq c43_28 c43_29
abbrev c43_31 : AC := .seq c43_17 c43_30
abbrev c43_32 : AC := .seq c43_16 c43_31
abbrev c43_33 : AC := .loop c43_32
abbrev c43_34 : AC := .block 2 c43_33
abbrev c43_35 : AC := .seq c43_15 c43_34
abbrev c43_36 : AC := .reg [⟨(some 63), .mv (.t 13), none⟩,
  ⟨(some 64), .mv (.t 63), none⟩,
  ⟨(some 65), .mv (.t 0), (some (64, true))⟩,
  ⟨(some 66), .mv (.t 1), (some (64, true))⟩,
  ⟨(some 67), .mv (.t 2), (some (64, true))⟩,
  ⟨(some 68), .call 24 [(.t 67)], (some (64, true))⟩,
  ⟨(some 69), .mv (.t 11), (some (64, true))⟩,
  ⟨(some 70), .bslice 3 1 [(.t 69)], (some (64, true))⟩,
  ⟨(some 71), .app 3 1 8 (.t 68) (.t 70), (some (64, true))⟩,
  ⟨(some 72), .mv (.t 12), (some (64, true))⟩,
  ⟨(some 73), .mv (.t 4), (some (64, true))⟩,
  ⟨(some 74), .call 43 [(.t 65), (.t 66), (.t 71), (.t 72), (.t 73)], (some (64, true))⟩,
  ⟨(some 75), .not (.t 74), (some (64, true))⟩,
  ⟨(some 76), .pick (.t 64) (.t 75) (.k (.B false)), none⟩] false
abbrev c43_37 : AC := .reg [⟨(some 10), .mv (.k (.B false)), none⟩] false
abbrev c43_38 : AC := .seq c43_37 .ret
abbrev c43_39 : AC := .cond (.t 76) c43_38 .skip
abbrev c43_40 : AC := .seq c43_36 c43_39
abbrev c43_41 : AC := .seq c43_35 c43_40
abbrev c43_42 : AC := .seq c43_14 c43_41
abbrev c43_43 : AC := .seq c43_13 c43_42
abbrev c43_44 : AC := .seq c43_10 c43_43
abbrev c43_45 : AC := .block 1 c43_44
abbrev c43_46 : AC := .reg [⟨(some 77), .bin .add (.t 24) (.k (.I 1)), none⟩,
  ⟨(some 24), .mv (.t 77), none⟩] false
abbrev c43_47 : AC := .seq c43_45 c43_46
abbrev c43_48 : AC := .seq c43_9 c43_47
abbrev c43_49 : AC := .seq c43_8 c43_48
abbrev c43_50 : AC := .loop c43_49
abbrev c43_51 : AC := .block 0 c43_50
abbrev c43_52 : AC := .seq c43_7 c43_51
abbrev c43_53 : AC := .reg [⟨(some 10), .mv (.k (.B true)), none⟩] false
abbrev c43_54 : AC := .seq c43_53 .ret
abbrev c43_55 : AC := .seq c43_52 c43_54
abbrev c43_56 : AC := .seq c43_6 c43_55
abbrev c43_57 : AC := .seq c43_1 c43_56
abbrev c43 : AC := c43_57
theorem code43 : fnCode Try.prog 43 = some (c43, [10], 78) := by kernel_rfl
end Go.Proofs.Ytcimlelkeppoiaa

open Go Go.AL Go.RowKit
namespace Go.Proofs.Ytcimlelkeppoiaa
set_option maxRecDepth 20000
noncomputable section
/- coinage/pqtree.ascending -/
abbrev c22_1 : AC := .reg [⟨(some 4), .mv (.k (.B false)), none⟩] false
abbrev c22_2 : AC := .reg [⟨(some 7), .mv (.t 0), none⟩,
  ⟨(some 8), .len (.t 7), none⟩,
  ⟨(some 9), .mv (.k (.I 0)), none⟩] false
abbrev c22_3 : AC := .reg [⟨(some 10), .bin .lss (.t 9) (.t 8), none⟩] false
abbrev c22_4 : AC := .cond (.t 10) .skip (.exit 0)
abbrev c22_5 : AC := .reg [⟨(some 11), .mv (.t 9), none⟩,
  ⟨(some 12), .iad 1 (.t 7) (.t 9), none⟩,
  ⟨(some 13), .ld none (.t 12), none⟩,
  ⟨(some 5), .mv (.t 11), none⟩,
  ⟨(some 6), .mv (.t 13), none⟩] false
abbrev c22_6 : AC := .reg [⟨(some 14), .mv (.t 6), none⟩,
  ⟨(some 15), .bin .lss (.t 14) (.k (.I 0)), none⟩,
  ⟨(some 16), .mv (.t 15), none⟩,
  ⟨(some 17), .mv (.t 6), (some (16, false))⟩,
  ⟨(some 18), .mv (.t 1), (some (16, false))⟩,
  ⟨(some 19), .bin .geq (.t 17) (.t 18), (some (16, false))⟩,
  ⟨(some 20), .pick (.t 16) (.k (.B true)) (.t 19), none⟩,
  ⟨(some 21), .mv (.t 20), none⟩,
  ⟨(some 22), .mv (.t 5), (some (21, false))⟩,
  ⟨(some 23), .bin .gtr (.t 22) (.k (.I 0)), (some (21, false))⟩,
  ⟨(some 24), .mv (.t 23), (some (21, false))⟩,
  ⟨(some 25), .mv (.t 6), (some (24, true))⟩,
  ⟨(some 26), .mv (.t 0), (some (24, true))⟩,
  ⟨(some 27), .mv (.t 5), (some (24, true))⟩,
  ⟨(some 28), .bin .sub (.t 27) (.k (.I 1)), (some (24, true))⟩,
  ⟨(some 29), .iad 1 (.t 26) (.t 28), (some (24, true))⟩,
  ⟨(some 30), .ld none (.t 29), (some (24, true))⟩,
  ⟨(some 31), .bin .leq (.t 25) (.t 30), (some (24, true))⟩,
  ⟨(some 32), .pick (.t 24) (.t 31) (.k (.B false)), (some (21, false))⟩,
  ⟨(some 33), .pick (.t 21) (.k (.B true)) (.t 32), none⟩] false
abbrev c22_7 : AC := .reg [⟨(some 4), .mv (.k (.B false)), none⟩] false
abbrev c22_8 : AC := .seq c22_7 .ret
abbrev c22_9 : AC := .cond (.t 33) c22_8 .skip
abbrev c22_10 : AC := .seq c22_6 c22_9
abbrev c22_11 : AC := .seq c22_5 c22_10
abbrev c22_12 : AC := .block 1 c22_11
abbrev c22_13 : AC := .reg [⟨(some 34), .bin .add (.t 9) (.k (.I 1)), none⟩,
  ⟨(some 9), .mv (.t 34), none⟩] false
abbrev c22_14 : AC := .seq c22_12 c22_13
abbrev c22_15 : AC := .seq c22_4 c22_14
abbrev c22_16 : AC := .seq c22_3 c22_15
abbrev c22_17 : AC := .loop c22_16
abbrev c22_18 : AC := .block 0 c22_17
abbrev c22_19 : AC := .seq c22_2 c22_18
abbrev c22_20 : AC := .reg [⟨(some 4), .mv (.k (.B true)), none⟩] false
abbrev c22_21 : AC := .seq c22_20 .ret
abbrev c22_22 : AC := .seq c22_19 c22_21
abbrev c22_23 : AC := .seq c22_1 c22_22
abbrev c22 : AC := c22_23
theorem code22 : fnCode Try.prog 22 = some (c22, [4], 35) := by kernel_rfl
/- (*coinage/pqtree.Tree).Reduce -/
abbrev c11_1 : AC := .reg [⟨(some 4), .mv (.k (.I 0)), none⟩] false
abbrev c11_2 : AC := .reg [⟨(some 10), .mv (.t 0), none⟩,
  ⟨(some 11), .pnil false (.t 10), none⟩,
  ⟨(some 12), .mv (.t 11), none⟩,
  ⟨(some 13), .mv (.t 1), (some (12, false))⟩,
  ⟨(some 14), .mv (.t 0), (some (12, false))⟩,
  ⟨(some 15), .nilck (.t 14), (some (12, false))⟩,
  ⟨(some 16), .fad 0 (.t 15), (some (12, false))⟩,
  ⟨(some 17), .ld none (.t 16), (some (12, false))⟩,
  ⟨(some 18), .call 22 [(.t 13), (.t 17)], (some (12, false))⟩,
  ⟨(some 19), .not (.t 18), (some (12, false))⟩,
  ⟨(some 20), .pick (.t 12) (.k (.B true)) (.t 19), none⟩] false
abbrev c11_3 : AC := .reg [⟨(some 4), .mv (.k (.I 1)), none⟩] false
abbrev c11_4 : AC := .seq c11_3 .ret
abbrev c11_5 : AC := .cond (.t 20) c11_4 .skip
abbrev c11_6 : AC := .seq c11_2 c11_5
abbrev c11_7 : AC := .reg [⟨(some 21), .mv (.t 1), none⟩,
  ⟨(some 22), .len (.t 21), none⟩,
  ⟨(some 23), .bin .eql (.t 22) (.k (.I 0)), none⟩] false
abbrev c11_8 : AC := .reg [⟨(some 4), .mv (.k (.I 0)), none⟩] false
abbrev c11_9 : AC := .seq c11_8 .ret
abbrev c11_10 : AC := .cond (.t 23) c11_9 .skip
abbrev c11_11 : AC := .seq c11_7 c11_10
abbrev c11_12 : AC := .reg [⟨(some 24), .mkmap (.one .i64), none⟩,
  ⟨(some 5), .mv (.t 24), none⟩] false
abbrev c11_13 : AC := .reg [⟨(some 25), .mv (.t 1), none⟩,
  ⟨(some 26), .len (.t 25), none⟩,
  ⟨(some 27), .mv (.k (.I 0)), none⟩] false
abbrev c11_14 : AC := .reg [⟨(some 28), .bin .lss (.t 27) (.t 26), none⟩] false
abbrev c11_15 : AC := .cond (.t 28) .skip (.exit 0)
abbrev c11_16 : AC := .reg [⟨(some 29), .iad 1 (.t 25) (.t 27), none⟩,
  ⟨(some 30), .ld none (.t 29), none⟩,
  ⟨(some 7), .mv (.t 30), none⟩] false
abbrev c11_17 : AC := .reg [⟨(some 31), .mv (.t 5), none⟩,
  ⟨(some 32), .mv (.t 7), none⟩,
  ⟨none, .mset (.one .i64) (.t 31) (.t 32) (.k (.B true)), none⟩] false
abbrev c11_18 : AC := .seq c11_16 c11_17
abbrev c11_19 : AC := .block 1 c11_18
abbrev c11_20 : AC := .reg [⟨(some 33), .bin .add (.t 27) (.k (.I 1)), none⟩,
  ⟨(some 27), .mv (.t 33), none⟩] false
abbrev c11_21 : AC := .seq c11_19 c11_20
abbrev c11_22 : AC := .seq c11_15 c11_21
abbrev c11_23 : AC := .seq c11_14 c11_22
abbrev c11_24 : AC := .loop c11_23
abbrev c11_25 : AC := .block 0 c11_24
abbrev c11_26 : AC := .seq c11_13 c11_25
abbrev c11_27 : AC := .reg [⟨(some 35), .mv (.t 5), none⟩,
  ⟨(some 36), .mv (.t 0), none⟩,
  ⟨(some 37), .nilck (.t 36), none⟩,
  ⟨(some 38), .fad 1 (.t 37), none⟩,
  ⟨(some 39), .ld none (.t 38), none⟩,
  ⟨(some 40), .call 23 [(.t 35), (.t 39)], none⟩,
  ⟨(some 34), .mv (.t 40), none⟩,
  ⟨(some 41), .ext (.t 34) 0, none⟩,
  ⟨(some 42), .ext (.t 34) 1, none⟩,
  ⟨(some 8), .mv (.t 41), none⟩,
  ⟨(some 9), .mv (.t 42), none⟩] false
abbrev c11_28 : AC := .reg [⟨(some 43), .mv (.t 9), none⟩,
  ⟨(some 44), .not (.t 43), none⟩] false
abbrev c11_29 : AC := .reg [⟨(some 4), .mv (.k (.I 10)), none⟩] false
abbrev c11_30 : AC := .seq c11_29 .ret
abbrev c11_31 : AC := .cond (.t 44) c11_30 .skip
abbrev c11_32 : AC := .seq c11_28 c11_31
abbrev c11_33 : AC := .reg [⟨(some 45), .mv (.t 0), none⟩,
  ⟨(some 46), .mv (.t 8), none⟩,
  ⟨(some 47), .nilck (.t 45), none⟩,
  ⟨(some 48), .fad 1 (.t 47), none⟩,
  ⟨none, .st none (.t 48) (.t 46), none⟩] false
abbrev c11_34 : AC := .regX (.first ⟨(some 49), .mv (.t 0), none⟩
  (.first ⟨(some 50), .mv (.t 0), none⟩
  (.first ⟨(some 51), .nilck (.t 50), none⟩
  (.first ⟨(some 52), .fad 2 (.t 51), none⟩
  (.first ⟨(some 54), .mv (.t 1), none⟩
  (.fork ⟨(some 53), .ld none (.t 52), none⟩
  (.fork ⟨(some 55), .call 24 [(.t 54)], none⟩
  (.fork ⟨(some 56), .bslice 25 1 [(.t 55)], none⟩
  (.fork ⟨(some 57), .app 25 1 24 (.t 53) (.t 56), none⟩
  (.first ⟨(some 58), .nilck (.t 49), none⟩
  (.first ⟨(some 59), .fad 2 (.t 58), none⟩
  (.fork ⟨none, .st none (.t 59) (.t 57), none⟩
  .done
  .nope)))
  .nope)
  .nope)
  .nope)
  (.fork ⟨(some 55), .call 24 [(.t 54)], none⟩
  (.fork ⟨(some 53), .ld none (.t 52), none⟩
  (.fork ⟨(some 56), .bslice 25 1 [(.t 55)], none⟩
  (.fork ⟨(some 57), .app 25 1 24 (.t 53) (.t 56), none⟩
  (.first ⟨(some 58), .nilck (.t 49), none⟩
  (.first ⟨(some 59), .fad 2 (.t 58), none⟩
  (.fork ⟨none, .st none (.t 59) (.t 57), none⟩
  .done
  .nope)))
  .nope)
  .nope)
  (.fork ⟨(some 56), .bslice 25 1 [(.t 55)], none⟩
  (.fork ⟨(some 53), .ld none (.t 52), none⟩
  (.fork ⟨(some 57), .app 25 1 24 (.t 53) (.t 56), none⟩
  (.first ⟨(some 58), .nilck (.t 49), none⟩
  (.first ⟨(some 59), .fad 2 (.t 58), none⟩
  (.fork ⟨none, .st none (.t 59) (.t 57), none⟩
  .done
  .nope)))
  .nope)
  .nope)
  .nope))
  .nope)))))))
abbrev c11_35 : AC := .reg [⟨(some 4), .mv (.k (.I 0)), none⟩] false
abbrev c11_36 : AC := .seq c11_35 .ret
abbrev c11_37 : AC := .seq c11_34 c11_36
abbrev c11_38 : AC := .seq c11_33 c11_37
abbrev c11_39 : AC := .seq c11_32 c11_38
abbrev c11_40 : AC := .seq c11_27 c11_39
abbrev c11_41 : AC := .seq c11_26 c11_40
abbrev c11_42 : AC := .seq c11_12 c11_41
abbrev c11_43 : AC := .seq c11_11 c11_42
abbrev c11_44 : AC := .seq c11_6 c11_43
abbrev c11_45 : AC := .seq c11_1 c11_44
abbrev c11 : AC := c11_45
theorem code11 : fnCode Try.prog 11 = some (c11, [4], 60) := by kernel_rfl
/- coinage/pqtree.New -/
abbrev c10_1 : AC := .reg [⟨(some 2), .mv (.k (.c .np)), none⟩,
  ⟨(some 3), .mv (.k (.I 0)), none⟩] false
abbrev c10_2 : AC := .reg [⟨(some 6), .mv (.t 0), none⟩,
  ⟨(some 7), .bin .lss (.t 6) (.k (.I 1)), none⟩,
  ⟨(some 8), .mv (.t 7), none⟩,
  ⟨(some 9), .mv (.t 0), (some (8, false))⟩,
  ⟨(some 10), .bin .gtr (.t 9) (.k (.I 16)), (some (8, false))⟩,
  ⟨(some 11), .pick (.t 8) (.k (.B true)) (.t 10), none⟩] false
abbrev c10_3 : AC := .reg [⟨(some 2), .mv (.k (.c .np)), none⟩,
  ⟨(some 3), .mv (.k (.I 2)), none⟩] false
abbrev c10_4 : AC := .seq c10_3 .ret
abbrev c10_5 : AC := .cond (.t 11) c10_4 .skip
abbrev c10_6 : AC := .seq c10_2 c10_5
abbrev c10_7 : AC := .reg [⟨(some 4), .mv (.k (.c .nil)), none⟩] false
abbrev c10_8 : AC := .reg [⟨(some 12), .mv (.t 0), none⟩,
  ⟨(some 13), .mv (.k (.I 0)), none⟩] false
abbrev c10_9 : AC := .reg [⟨(some 14), .bin .lss (.t 13) (.t 12), none⟩] false
abbrev c10_10 : AC := .cond (.t 14) .skip (.exit 0)
abbrev c10_11 : AC := .reg [⟨(some 15), .mv (.t 13), none⟩,
  ⟨(some 5), .mv (.t 15), none⟩] false
abbrev c10_12 : AC := .reg [⟨(some 16), .mv (.t 4), none⟩,
  ⟨(some 17), .mv (.t 5), none⟩,
  ⟨(some 18), .build [(.I 0), (.B false), (.c .nil)] [(0, 1, (.t 17))], none⟩,
  ⟨(some 19), .box 44 (some 3) (.t 18), none⟩,
  ⟨(some 20), .bslice 42 1 [(.t 19)], none⟩,
  ⟨(some 21), .app 42 1 8 (.t 16) (.t 20), none⟩,
  ⟨(some 4), .mv (.t 21), none⟩] false
abbrev c10_13 : AC := .seq c10_11 c10_12
abbrev c10_14 : AC := .block 1 c10_13
abbrev c10_15 : AC := .reg [⟨(some 22), .bin .add (.t 13) (.k (.I 1)), none⟩,
  ⟨(some 13), .mv (.t 22), none⟩] false
abbrev c10_16 : AC := .seq c10_14 c10_15
abbrev c10_17 : AC := .seq c10_10 c10_16
abbrev c10_18 : AC := .seq c10_9 c10_17
abbrev c10_19 : AC := .loop c10_18
abbrev c10_20 : AC := .block 0 c10_19
abbrev c10_21 : AC := .seq c10_8 c10_20
abbrev c10_22 : AC := .reg [⟨(some 23), .mv (.t 0), none⟩,
  ⟨(some 24), .mv (.t 4), none⟩,
  ⟨(some 25), .call 21 [(.t 24)], none⟩,
  ⟨(some 26), .build [(.I 0), (.c .np), (.c .nil)] [(0, 1, (.t 23)), (1, 1, (.t 25))], none⟩,
  ⟨(some 27), .box 47 (some 3) (.t 26), none⟩,
  ⟨(some 2), .mv (.t 27), none⟩,
  ⟨(some 3), .mv (.k (.I 0)), none⟩] false
abbrev c10_23 : AC := .seq c10_22 .ret
abbrev c10_24 : AC := .seq c10_21 c10_23
abbrev c10_25 : AC := .seq c10_7 c10_24
abbrev c10_26 : AC := .seq c10_6 c10_25
abbrev c10_27 : AC := .seq c10_1 c10_26
abbrev c10 : AC := c10_27
theorem code10 : fnCode Try.prog 10 = some (c10, [2, 3], 28) := by kernel_rfl
end
def nI (c : Nat) : List CD := [.I (c : Int)]
abbrev Rw (r : List Nat) : CD := .sl 1 (r.map nI)
def AscN (n : Nat) (r : List Nat) : Prop := ∀ i, i < r.length → nth r i < n ∧ (0 < i → nth r (i - 1) < nth r i)
theorem x22 (n : Nat) (hn : n ≤ 1000) (r : List Nat) (hl : r.length ≤ 1000) (h : AscN n r) : FnR Try.prog 22 [.c (Rw r), .I (n : Int)] [.c (.B true)] := by
  refine fn_walk code22 (by simp) ?_
  (repeat' (first | refine Sni.mk (fun hc => ?_) ?_ | refine Both.mk ?_ ?_ | ((first | refine aw ?_ | refine aD ?_ | refine aX ?_ | refine cT ?_ | refine cF ?_); try simp (disch := omega) only [go_sem, seval, reduceCtorEq, List.length_map]) | refine aI (fun hc => ?_) fun hc => ?_ | simp (disch := omega) only [go_sem, seval, reduceCtorEq, List.length_map] | (refine And.intro ?_ ?_; focus (first | (intros; omega) | (intros; simp_all; done))) | refine aA ?_ ?_ | fail))
  refine AW_loopK [0, 1, 7, 8] [4, 5, 6, 9, 10, 11, 12, 13, 14, 15, 16, 17, 18, 19, 20, 21, 22, 23, 24, 25, 26, 27, 28, 29, 30, 31, 32, 33, 34] (fun i : Nat => i ≤ r.length) (fun i => [(9, .I (i : Int))]) (fun _ => []) (fun i => r.length - i) 0 (by omega) ?_ ?_
  · simp (disch := omega) only [go_sem, seval, reduceCtorEq, Int.natCast_zero]
  · intro i hi
    rcases Nat.lt_or_ge i r.length with hil | hil
    · have hkk : ((i : Int) < (r.length : Int)) = True := eq_true (by omega)
      obtain ⟨a1, a2⟩ := h i hil
      have hge : (r.map nI).getD i [] = nI (nth r i) := getD_map nI r i [] hil
      have f1 : (((nth r i : Nat) : Int) < 0) = False := eq_false (by omega)
      have f2 : (((nth r i : Nat) : Int) ≥ (n : Int)) = False := eq_false (by omega)
      rcases Nat.eq_zero_or_pos i with rfl | hp
      · generalize nth r 0 = x at *
        (repeat' (first | refine Sni.mk (fun hc => ?_) ?_ | refine Both.mk ?_ ?_ | ((first | refine aw ?_ | refine aD ?_ | refine aX ?_ | refine cT ?_ | refine cF ?_); try simp (disch := omega) only [go_sem, seval, reduceCtorEq, hkk, hge, f1, f2, nI, List.length_map, Int.natCast_zero, Int.toNat_natCast]) | refine aI (fun hc => ?_) fun hc => ?_ | simp (disch := omega) only [go_sem, seval, reduceCtorEq, hkk, hge, f1, f2, nI, List.length_map, Int.natCast_zero, Int.toNat_natCast] | (refine And.intro ?_ ?_; focus (first | (intros; omega) | (intros; simp_all; done))) | refine aA ?_ ?_ | fail))
        all_goals first | omega | skip
        all_goals (
          refine .mk (0 + 1) (by omega) (by omega) ?_
          simp (disch := omega) only [go_sem, seval, reduceCtorEq, Int.natCast_add, Int.natCast_one, Int.natCast_zero, Int.zero_add])
      · have a3 := a2 hp
        have hge2 : (r.map nI).getD (i - 1) [] = nI (nth r (i - 1)) := getD_map nI r (i - 1) [] (by omega)
        have e1 : ((i : Int) - 1).toNat = i - 1 := by omega
        have f3 : ((i : Int) > 0) = True := eq_true (by omega)
        have f4 : (((nth r i : Nat) : Int) ≤ ((nth r (i - 1) : Nat) : Int)) = False := eq_false (by omega)
        have f5 : ((i : Int) - 1 < (r.length : Int)) = True := eq_true (by omega)
        generalize nth r i = x at *
        generalize nth r (i - 1) = y at *
        (repeat' (first | refine Sni.mk (fun hc => ?_) ?_ | refine Both.mk ?_ ?_ | ((first | refine aw ?_ | refine aD ?_ | refine aX ?_ | refine cT ?_ | refine cF ?_); try simp (disch := omega) only [go_sem, seval, reduceCtorEq, hkk, hge, hge2, f1, f2, f3, f4, f5, e1, nI, List.length_map, Int.toNat_natCast]) | refine aI (fun hc => ?_) fun hc => ?_ | simp (disch := omega) only [go_sem, seval, reduceCtorEq, hkk, hge, hge2, f1, f2, f3, f4, f5, e1, nI, List.length_map, Int.toNat_natCast] | (refine And.intro ?_ ?_; focus (first | (intros; omega) | (intros; simp_all; done))) | refine aA ?_ ?_ | fail))
        all_goals first | omega | skip
        all_goals (
          refine .mk (i + 1) (by omega) (by omega) ?_
          simp (disch := omega) only [go_sem, seval, reduceCtorEq, Int.natCast_add, Int.natCast_one])
    · obtain rfl : i = r.length := by omega
      have hkk : ((r.length : Int) < (r.length : Int)) = False := eq_false (by omega)
      (repeat' (first | refine Sni.mk (fun hc => ?_) ?_ | refine Both.mk ?_ ?_ | ((first | refine aw ?_ | refine aD ?_ | refine aX ?_ | refine cT ?_ | refine cF ?_); try simp (disch := omega) only [go_sem, seval, reduceCtorEq, hkk]) | refine aI (fun hc => ?_) fun hc => ?_ | simp (disch := omega) only [go_sem, seval, reduceCtorEq, hkk] | (refine And.intro ?_ ?_; focus (first | (intros; omega) | (intros; simp_all; done))) | refine aA ?_ ?_ | fail))
theorem x24 (r : List Nat) (h : r.length ≤ 1000) (h0 : r ≠ []) : FnR Try.prog 24 [.c (Rw r)] [.own 3 1 (r.map nI)] := by
  have hne : r.map nI ≠ [] := by simpa using h0
  refine fn_walk code24 (by simp) ?_
  (repeat' (first | refine Sni.mk (fun hc => ?_) ?_ | refine Both.mk ?_ ?_ | ((first | refine aw ?_ | refine aD ?_ | refine aX ?_ | refine cT ?_ | refine cF ?_); try simp (disch := omega) only [go_sem, seval, reduceCtorEq, maxLen, List.nil_append, List.length_nil, List.length_map]) | refine aI (fun hc => ?_) fun hc => ?_ | simp (disch := omega) only [go_sem, seval, reduceCtorEq, maxLen, List.nil_append, List.length_nil, List.length_map] | (refine And.intro ?_ ?_; focus (first | (intros; omega) | (intros; simp_all; done))) | refine aA ?_ ?_ | fail))
  all_goals first | omega | (exact absurd hc hne) | (simp at hc; exact absurd hc h0) | skip
theorem rowC_set (n : Nat) : ∀ l : List Nat, n ∉ l → mset (rowC l) [(n : Int)] (.inl (.B true)) = rowC (l ++ [n])
  | [], _ => rfl
  | m :: r, h => by
    have := rowC_set n r (fun hh => h (by simp [hh]))
    simp only [rowC, List.map_cons, List.cons_append, mset] at this ⊢
    have hnm : n ≠ m := fun e => h (by simp [e])
    rw [if_neg (by simp; omega), this]
theorem AscN_lt {n : Nat} {r : List Nat} (h : AscN n r) : ∀ i j, i < j → j < r.length → nth r i < nth r j := by
  intro i j
  induction j with
  | zero => intro h1 _; omega
  | succ j ih =>
    intro h1 h2
    have h3 := (h (j + 1) h2).2 (by omega)
    simp only [Nat.add_sub_cancel] at h3
    rcases Nat.lt_succ_iff_lt_or_eq.1 h1 with h4 | rfl
    · have := ih h4 (by omega); omega
    · exact h3
theorem AscN_nm {n : Nat} {r : List Nat} (h : AscN n r) {i : Nat} (hi : i < r.length) : nth r i ∉ r.take i := fun hm => by
  obtain ⟨j, hj, e⟩ := List.getElem_of_mem hm
  rw [List.length_take] at hj
  rw [List.getElem_take] at e
  have := AscN_lt h j i (by omega) hi
  rw [nth_eq r j (by omega), e] at this
  omega
theorem h10a {Q : Exit → St → Prop} {σ : St} (h : Hold (AW Try.prog c10_24 Q σ)) : AW Try.prog c10_24 Q σ := h.out
theorem h10b {Q : Exit → St → Prop} {σ : St} (h : Hold (AW Try.prog c10_23 Q σ)) : AW Try.prog c10_23 Q σ := h.out
theorem h11a {Q : Exit → St → Prop} {σ : St} (h : Hold (AW Try.prog c11_40 Q σ)) : AW Try.prog c11_40 Q σ := h.out
def lvs (n : Nat) : List N := (List.range n).map fun i => .nd i false []
theorem lvs_succ (n : Nat) : lvs (n + 1) = lvs n ++ [.nd n false []] := by simp [lvs, List.range_succ]
theorem lvs_len (n : Nat) : (lvs n).length = n := by simp [lvs]
set_option maxHeartbeats 4000000 in
theorem x10 (n : Nat) (hn : 1 ≤ n ∧ n ≤ 5) (T : N) (hT : grp (lvs n) = some T) : FnG Try.prog 10 [.I (n : Int)] [] [.ptr 27 0, .c (.I 0)] [(27, .box 47 [.I (n : Int), .c (ncd T), .c .nil])] [] := by
  have f1 : ((n : Int) < 1) = False := eq_false (by omega)
  have f2 : ((n : Int) > 16) = False := eq_false (by omega)
  have g21 := x21 (lvs n) (by rw [lvs_len]; omega)
  rw [hT] at g21
  simp only [ocd] at g21
  refine fn_walkG code10 (by simp) (by rfl) ?_
  (repeat' (first | (with_reducible refine h10a ?_) | refine Sni.mk (fun hc => ?_) ?_ | refine Both.mk ?_ ?_ | ((first | refine aw ?_ | refine aD ?_ | refine aX ?_ | refine cT ?_ | refine cF ?_); try simp (disch := omega) only [go_sem, seval, reduceCtorEq, f1, f2]) | refine aI (fun hc => ?_) fun hc => ?_ | simp (disch := omega) only [go_sem, seval, reduceCtorEq, f1, f2] | (refine And.intro ?_ ?_; focus (first | (intros; omega) | (intros; simp_all; done))) | refine aA ?_ ?_ | fail))
  refine ⟨AW_nil 4 901 42 1 (by rfl) ?_⟩
  simp (disch := omega) only [go_sem, seval, reduceCtorEq]
  (repeat' (first | refine Sni.mk (fun hc => ?_) ?_ | refine Both.mk ?_ ?_ | ((first | refine aw ?_ | refine aD ?_ | refine aX ?_ | refine cT ?_ | refine cF ?_); try simp (disch := omega) only [go_sem, seval, reduceCtorEq]) | refine aI (fun hc => ?_) fun hc => ?_ | simp (disch := omega) only [go_sem, seval, reduceCtorEq] | (refine And.intro ?_ ?_; focus (first | (intros; omega) | (intros; simp_all; done))) | refine aA ?_ ?_ | fail))
  refine AW_loopK [0, 12] [4, 5, 13, 14, 15, 16, 17, 18, 19, 20, 21, 22] (fun i : Nat => i ≤ n) (fun i => [(4, .own 901), (13, .I (i : Int))]) (fun i => [(901, .arr 42 1 (cells (lvs i)))]) (fun i => n - i) 0 (by omega) ?_ ?_
  · simp (disch := omega) only [go_sem, seval, reduceCtorEq, lvs, List.range_zero, List.map_nil, cells, Int.natCast_zero]
  · intro i hi
    rcases Nat.lt_or_ge i n with hil | hil
    · have hkk : ((i : Int) < (n : Int)) = True := eq_true (by omega)
      have hl := cells_len (lvs i)
      rw [lvs_len] at hl
      have hs : cells (lvs i) ++ [[.dp [.I (i : Int), .B false, .nil]]] = cells (lvs (i + 1)) := by rw [lvs_succ, cells_app]; rfl
      (repeat' (first | refine Sni.mk (fun hc => ?_) ?_ | refine Both.mk ?_ ?_ | ((first | refine aw ?_ | refine aD ?_ | refine aX ?_ | refine cT ?_ | refine cF ?_); try simp (disch := omega) only [go_sem, seval, reduceCtorEq, hkk, hl, hs, maxLen, List.length_cons, List.length_nil]) | refine aI (fun hc => ?_) fun hc => ?_ | simp (disch := omega) only [go_sem, seval, reduceCtorEq, hkk, hl, hs, maxLen, List.length_cons, List.length_nil] | (refine And.intro ?_ ?_; focus (first | (intros; omega) | (intros; simp_all; done))) | refine aA ?_ ?_ | fail))
      all_goals first | omega | skip
      all_goals (
        refine .mk (i + 1) (by omega) (by omega) ?_
        simp (disch := omega) only [go_sem, seval, reduceCtorEq, Int.natCast_add, Int.natCast_one])
    · obtain rfl : i = n := by omega
      have hkk : ((i : Int) < (i : Int)) = False := eq_false (by omega)
      (repeat' (first | (with_reducible refine h10b ?_) | refine Sni.mk (fun hc => ?_) ?_ | refine Both.mk ?_ ?_ | ((first | refine aw ?_ | refine aD ?_ | refine aX ?_ | refine cT ?_ | refine cF ?_); try simp (disch := omega) only [go_sem, seval, reduceCtorEq, hkk]) | refine aI (fun hc => ?_) fun hc => ?_ | simp (disch := omega) only [go_sem, seval, reduceCtorEq, hkk] | (refine And.intro ?_ ?_; focus (first | (intros; omega) | (intros; simp_all; done))) | refine aA ?_ ?_ | fail))
      refine ⟨AW_frz [901] ?_⟩
      simp (disch := omega) only [go_sem, seval, reduceCtorEq]
      (repeat' (first | refine Sni.mk (fun hc => ?_) ?_ | refine Both.mk ?_ ?_ | ((first | refine aw ?_ | refine aD ?_ | refine aX ?_ | refine cT ?_ | refine cF ?_ | refine cR (g21 ..) ?_ | refine cG (g21 ..) ?_); try simp (disch := omega) only [go_sem, seval, reduceCtorEq]) | refine aI (fun hc => ?_) fun hc => ?_ | simp (disch := omega) only [go_sem, seval, reduceCtorEq] | (refine And.intro ?_ ?_; focus (first | (intros; omega) | (intros; simp_all; done))) | refine aC ?_ ?_ | refine aC' ?_ ?_ | refine aA ?_ ?_ | fail))
def tob (a b : Nat) (n : Nat) (T : N) (rows : List (List CD)) : List (Nat × AO) := [(a, .box 47 [.I (n : Int), .c (ncd T), .own b]), (b, .arr 25 1 rows)]
set_option maxHeartbeats 8000000 in
theorem x11n (n : Nat) (hn : n ≤ 100) (T : N) (rows : List (List CD)) (r : List Nat) (h : AscN n r) (hr : r.length ≤ 100) (h0 : r ≠ []) (d : CD) (hd : FnR Try.prog 23 [.c (RM r), .c (ncd T)] [.c d, .c (.B false)]) :
    FnW Try.prog 11 [.ptr 1000027 0, .c (Rw r)] (tob 1000027 2000 n T rows) [.c (.I 10)] (tob 1000027 2000 n T rows) [1000027] := by
  have hlen : 0 < r.length := Nat.pos_of_ne_zero fun e => h0 (List.eq_nil_of_length_eq_zero e)
  have f0 : ((r.length : Int) = 0) = False := eq_false (by omega)
  have g22 := x22 n (by omega) r (by omega) h
  unfold tob
  refine fn_walkW code11 (by simp) (by rfl) ?_
  (repeat' (first | refine Sni.mk (fun hc => ?_) ?_ | refine Both.mk ?_ ?_ | ((first | refine aw ?_ | refine aD ?_ | refine aX ?_ | refine cT ?_ | refine cF ?_ | refine cR (g22 ..) ?_ | refine cG (g22 ..) ?_); try simp (disch := omega) only [go_sem, seval, reduceCtorEq, f0, List.length_map]) | refine aI (fun hc => ?_) fun hc => ?_ | simp (disch := omega) only [go_sem, seval, reduceCtorEq, f0, List.length_map] | (refine And.intro ?_ ?_; focus (first | (intros; omega) | (intros; simp_all; done))) | refine aC ?_ ?_ | refine aC' ?_ ?_ | refine aA ?_ ?_ | fail))
  refine AW_loopK [0, 1, 5, 25, 26] [7, 27, 28, 29, 30, 31, 32, 33] (fun i : Nat => i ≤ r.length) (fun i => [(27, .I (i : Int))]) (fun i => [(24, .map (.one .i64) (rowC (r.take i))), (1000027, .box 47 [.I (n : Int), .c (ncd T), .own 2000]), (2000, .arr 25 1 rows)]) (fun i => r.length - i) 0 (by omega) ?_ ?_
  · simp (disch := omega) only [go_sem, seval, reduceCtorEq, List.take_zero, rowC, List.map_nil, Int.natCast_zero]
  · intro i hi
    rcases Nat.lt_or_ge i r.length with hil | hil
    · have hkk : ((i : Int) < (r.length : Int)) = True := eq_true (by omega)
      have hge : (r.map nI).getD i [] = nI (nth r i) := getD_map nI r i [] hil
      have hs := rowC_set (nth r i) (r.take i) (AscN_nm h hil)
      have htk : r.take i ++ [nth r i] = r.take (i + 1) := by rw [nth_eq r i hil, List.take_succ_eq_append_getElem hil]
      rw [htk] at hs
      have hb := (h i hil).1
      generalize nth r i = x at *
      (repeat' (first | refine Sni.mk (fun hc => ?_) ?_ | refine Both.mk ?_ ?_ | ((first | refine aw ?_ | refine aD ?_ | refine aX ?_ | refine cT ?_ | refine cF ?_); try simp (disch := omega) only [go_sem, seval, reduceCtorEq, hkk, hge, hs, nI, keyOk, IntKind.min, IntKind.max, List.length_map, Int.toNat_natCast]) | refine aI (fun hc => ?_) fun hc => ?_ | simp (disch := omega) only [go_sem, seval, reduceCtorEq, hkk, hge, hs, nI, keyOk, IntKind.min, IntKind.max, List.length_map, Int.toNat_natCast] | (refine And.intro ?_ ?_; focus (first | (intros; omega) | (intros; simp_all; done))) | refine aA ?_ ?_ | fail))
      all_goals first | omega | skip
      all_goals (
        refine .mk (i + 1) (by omega) (by omega) ?_
        simp (disch := omega) only [go_sem, seval, reduceCtorEq, Int.natCast_add, Int.natCast_one])
    · obtain rfl : i = r.length := by omega
      have hkk : ((r.length : Int) < (r.length : Int)) = False := eq_false (by omega)
      rw [List.take_length]
      (repeat' (first | (with_reducible refine h11a ?_) | refine Sni.mk (fun hc => ?_) ?_ | refine Both.mk ?_ ?_ | ((first | refine aw ?_ | refine aD ?_ | refine aX ?_ | refine cT ?_ | refine cF ?_); try simp (disch := omega) only [go_sem, seval, reduceCtorEq, hkk]) | refine aI (fun hc => ?_) fun hc => ?_ | simp (disch := omega) only [go_sem, seval, reduceCtorEq, hkk] | (refine And.intro ?_ ?_; focus (first | (intros; omega) | (intros; simp_all; done))) | refine aA ?_ ?_ | fail))
      refine ⟨AW_frz [24] ?_⟩
      simp (disch := omega) only [go_sem, seval, reduceCtorEq]
      (repeat' (first | refine Sni.mk (fun hc => ?_) ?_ | refine Both.mk ?_ ?_ | ((first | refine aw ?_ | refine aD ?_ | refine aX ?_ | refine cT ?_ | refine cF ?_ | refine cR (hd ..) ?_ | refine cG (hd ..) ?_); try simp (disch := omega) only [go_sem, seval, reduceCtorEq]) | refine aI (fun hc => ?_) fun hc => ?_ | simp (disch := omega) only [go_sem, seval, reduceCtorEq] | (refine And.intro ?_ ?_; focus (first | (intros; omega) | (intros; simp_all; done))) | refine aC ?_ ?_ | refine aC' ?_ ?_ | refine aA ?_ ?_ | fail))
set_option maxHeartbeats 8000000 in
theorem x11y (n : Nat) (hn : n ≤ 100) (T : N) (rows : List (List CD)) (r : List Nat) (h : AscN n r) (hr : r.length ≤ 100) (h0 : r ≠ []) (hrl : rows.length ≤ 1000) (T' : N) (hd : FnR Try.prog 23 [.c (RM r), .c (ncd T)] [.c (ncd T'), .c (.B true)]) :
    FnW Try.prog 11 [.ptr 1000027 0, .c (Rw r)] (tob 1000027 2000 n T rows) [.c (.I 0)] (tob 1000027 2000 n T' (rows ++ [[Rw r]])) [1000027] := by
  have hlen : 0 < r.length := Nat.pos_of_ne_zero fun e => h0 (List.eq_nil_of_length_eq_zero e)
  have f0 : ((r.length : Int) = 0) = False := eq_false (by omega)
  have g24 := x24 r (by omega) h0
  have g22 := x22 n (by omega) r (by omega) h
  unfold tob
  refine fn_walkW code11 (by simp) (by rfl) ?_
  (repeat' (first | refine Sni.mk (fun hc => ?_) ?_ | refine Both.mk ?_ ?_ | ((first | refine aw ?_ | refine aD ?_ | refine aX ?_ | refine cT ?_ | refine cF ?_ | refine cR (g22 ..) ?_ | refine cG (g22 ..) ?_); try simp (disch := omega) only [go_sem, seval, reduceCtorEq, f0, List.length_map]) | refine aI (fun hc => ?_) fun hc => ?_ | simp (disch := omega) only [go_sem, seval, reduceCtorEq, f0, List.length_map] | (refine And.intro ?_ ?_; focus (first | (intros; omega) | (intros; simp_all; done))) | refine aC ?_ ?_ | refine aC' ?_ ?_ | refine aA ?_ ?_ | fail))
  refine AW_loopK [0, 1, 5, 25, 26] [7, 27, 28, 29, 30, 31, 32, 33] (fun i : Nat => i ≤ r.length) (fun i => [(27, .I (i : Int))]) (fun i => [(24, .map (.one .i64) (rowC (r.take i))), (1000027, .box 47 [.I (n : Int), .c (ncd T), .own 2000]), (2000, .arr 25 1 rows)]) (fun i => r.length - i) 0 (by omega) ?_ ?_
  · simp (disch := omega) only [go_sem, seval, reduceCtorEq, List.take_zero, rowC, List.map_nil, Int.natCast_zero]
  · intro i hi
    rcases Nat.lt_or_ge i r.length with hil | hil
    · have hkk : ((i : Int) < (r.length : Int)) = True := eq_true (by omega)
      have hge : (r.map nI).getD i [] = nI (nth r i) := getD_map nI r i [] hil
      have hs := rowC_set (nth r i) (r.take i) (AscN_nm h hil)
      have htk : r.take i ++ [nth r i] = r.take (i + 1) := by rw [nth_eq r i hil, List.take_succ_eq_append_getElem hil]
      rw [htk] at hs
      have hb := (h i hil).1
      generalize nth r i = x at *
      (repeat' (first | refine Sni.mk (fun hc => ?_) ?_ | refine Both.mk ?_ ?_ | ((first | refine aw ?_ | refine aD ?_ | refine aX ?_ | refine cT ?_ | refine cF ?_); try simp (disch := omega) only [go_sem, seval, reduceCtorEq, hkk, hge, hs, nI, keyOk, IntKind.min, IntKind.max, List.length_map, Int.toNat_natCast]) | refine aI (fun hc => ?_) fun hc => ?_ | simp (disch := omega) only [go_sem, seval, reduceCtorEq, hkk, hge, hs, nI, keyOk, IntKind.min, IntKind.max, List.length_map, Int.toNat_natCast] | (refine And.intro ?_ ?_; focus (first | (intros; omega) | (intros; simp_all; done))) | refine aA ?_ ?_ | fail))
      all_goals first | omega | skip
      all_goals (
        refine .mk (i + 1) (by omega) (by omega) ?_
        simp (disch := omega) only [go_sem, seval, reduceCtorEq, Int.natCast_add, Int.natCast_one])
    · obtain rfl : i = r.length := by omega
      have hkk : ((r.length : Int) < (r.length : Int)) = False := eq_false (by omega)
      rw [List.take_length]
      (repeat' (first | (with_reducible refine h11a ?_) | refine Sni.mk (fun hc => ?_) ?_ | refine Both.mk ?_ ?_ | ((first | refine aw ?_ | refine aD ?_ | refine aX ?_ | refine cT ?_ | refine cF ?_); try simp (disch := omega) only [go_sem, seval, reduceCtorEq, hkk]) | refine aI (fun hc => ?_) fun hc => ?_ | simp (disch := omega) only [go_sem, seval, reduceCtorEq, hkk] | (refine And.intro ?_ ?_; focus (first | (intros; omega) | (intros; simp_all; done))) | refine aA ?_ ?_ | fail))
      refine ⟨AW_frz [24] ?_⟩
      simp (disch := omega) only [go_sem, seval, reduceCtorEq]
      (repeat' (first | refine Sni.mk (fun hc => ?_) ?_ | refine Both.mk ?_ ?_ | ((first | refine aw ?_ | refine aD ?_ | refine aX ?_ | refine cT ?_ | refine cF ?_ | refine cR (hd ..) ?_ | refine cG (hd ..) ?_ | refine cR (g24 ..) ?_ | refine cG (g24 ..) ?_); try simp (disch := omega) only [go_sem, seval, reduceCtorEq, maxLen, List.length_cons, List.length_nil]) | refine aI (fun hc => ?_) fun hc => ?_ | simp (disch := omega) only [go_sem, seval, reduceCtorEq, maxLen, List.length_cons, List.length_nil] | (refine And.intro ?_ ?_; focus (first | (intros; omega) | (intros; simp_all; done))) | refine aC ?_ ?_ | refine aC' ?_ ?_ | refine aA ?_ ?_ | refine And.intro (?_ : _ ∧ _) ?_ | fail))
      all_goals first | omega | skip
end Go.Proofs.Ytcimlelkeppoiaa

