/-
  Lemmas for the proof: no statement of its own.
-/
import Derived.Test.YtlomngideedobaaProg
import Derived.Test.YtlomngideedobaaAlD
import Derived.KernelRfl
set_option linter.unusedVariables false
set_option linter.unusedSimpArgs false
open Go Go.AL
namespace Go.Proofs.Ytlomngideedobaa
/- coinage/coinagelaw14.ComponentMetric -/
abbrev c3_1 : AC := .reg [⟨(some 2), .box 25 (some 3) (.t 0), none⟩,
  ⟨(some 3), .box 28 (some 6) (.t 1), none⟩,
  ⟨(some 4), .mv (.k (.B false)), none⟩] false
abbrev c3_2 : AC := .reg [⟨(some 15), .call 10 [], none⟩,
  ⟨(some 16), .not (.t 15), none⟩,
  ⟨(some 17), .mv (.t 16), none⟩,
  ⟨(some 18), .ld (some 3) (.t 2), (some (17, false))⟩,
  ⟨(some 19), .call 11 [(.t 18)], (some (17, false))⟩,
  ⟨(some 20), .not (.t 19), (some (17, false))⟩,
  ⟨(some 21), .pick (.t 17) (.k (.B true)) (.t 20), none⟩] false
abbrev c3_3 : AC := .reg [⟨(some 22), .call 10 [], none⟩,
  ⟨(some 4), .mv (.t 22), none⟩] false
abbrev c3_4 : AC := .seq c3_3 .ret
abbrev c3_5 : AC := .cond (.t 21) c3_4 .skip
abbrev c3_6 : AC := .seq c3_2 c3_5
abbrev c3_7 : AC := .reg [⟨(some 24), .ld (some 3) (.t 2), none⟩,
  ⟨(some 25), .iadA 3 2 (.t 3) (.k (.I 0)), none⟩,
  ⟨(some 26), .ld (some 2) (.t 25), none⟩,
  ⟨(some 27), .iadA 3 2 (.t 3) (.k (.I 1)), none⟩,
  ⟨(some 28), .ld (some 2) (.t 27), none⟩,
  ⟨(some 29), .call 12 [(.t 24), (.t 26), (.t 28)], none⟩,
  ⟨(some 23), .mv (.t 29), none⟩,
  ⟨(some 30), .ext (.t 23) 0, none⟩,
  ⟨(some 31), .ext (.t 23) 1, none⟩,
  ⟨(some 5), .mv (.t 30), none⟩,
  ⟨(some 6), .mv (.t 31), none⟩] false
abbrev c3_8 : AC := .reg [⟨(some 33), .ld (some 3) (.t 2), none⟩,
  ⟨(some 34), .iadA 3 2 (.t 3) (.k (.I 1)), none⟩,
  ⟨(some 35), .ld (some 2) (.t 34), none⟩,
  ⟨(some 36), .iadA 3 2 (.t 3) (.k (.I 0)), none⟩,
  ⟨(some 37), .ld (some 2) (.t 36), none⟩,
  ⟨(some 38), .call 12 [(.t 33), (.t 35), (.t 37)], none⟩,
  ⟨(some 32), .mv (.t 38), none⟩,
  ⟨(some 39), .ext (.t 32) 0, none⟩,
  ⟨(some 40), .ext (.t 32) 1, none⟩,
  ⟨(some 7), .mv (.t 39), none⟩,
  ⟨(some 8), .mv (.t 40), none⟩] false
abbrev c3_9 : AC := .reg [⟨(some 41), .mv (.t 6), none⟩,
  ⟨(some 42), .mv (.t 8), none⟩,
  ⟨(some 43), .bin .neq (.t 41) (.t 42), none⟩,
  ⟨(some 44), .mv (.t 43), none⟩,
  ⟨(some 45), .mv (.t 5), (some (44, false))⟩,
  ⟨(some 46), .mv (.t 7), (some (44, false))⟩,
  ⟨(some 47), .bin .neq (.t 45) (.t 46), (some (44, false))⟩,
  ⟨(some 48), .pick (.t 44) (.k (.B true)) (.t 47), none⟩] false
abbrev c3_10 : AC := .reg [⟨(some 4), .mv (.k (.B false)), none⟩] false
abbrev c3_11 : AC := .seq c3_10 .ret
abbrev c3_12 : AC := .cond (.t 48) c3_11 .skip
abbrev c3_13 : AC := .seq c3_9 c3_12
abbrev c3_14 : AC := .reg [⟨(some 49), .mv (.t 6), none⟩,
  ⟨(some 50), .bin .neq (.t 49) (.k (.I 0)), none⟩] false
abbrev c3_15 : AC := .reg [⟨(some 51), .mv (.t 5), none⟩,
  ⟨(some 52), .bin .eql (.t 51) (.k (.I 0)), none⟩,
  ⟨(some 4), .mv (.t 52), none⟩] false
abbrev c3_16 : AC := .seq c3_15 .ret
abbrev c3_17 : AC := .cond (.t 50) c3_16 .skip
abbrev c3_18 : AC := .seq c3_14 c3_17
abbrev c3_19 : AC := .reg [⟨(some 54), .ld (some 3) (.t 2), none⟩,
  ⟨(some 55), .iadA 3 2 (.t 3) (.k (.I 0)), none⟩,
  ⟨(some 56), .ld (some 2) (.t 55), none⟩,
  ⟨(some 57), .iadA 3 2 (.t 3) (.k (.I 1)), none⟩,
  ⟨(some 58), .ld (some 2) (.t 57), none⟩,
  ⟨(some 59), .call 13 [(.t 54), (.t 56), (.t 58)], none⟩,
  ⟨(some 53), .mv (.t 59), none⟩,
  ⟨(some 60), .ext (.t 53) 0, none⟩,
  ⟨(some 61), .ext (.t 53) 1, none⟩,
  ⟨(some 9), .mv (.t 60), none⟩,
  ⟨(some 10), .mv (.t 61), none⟩] false
abbrev c3_20 : AC := .reg [⟨(some 62), .mv (.t 10), none⟩,
  ⟨(some 63), .bin .neq (.t 62) (.k (.I 0)), none⟩,
  ⟨(some 64), .mv (.t 63), none⟩,
  ⟨(some 65), .mv (.t 9), (some (64, false))⟩,
  ⟨(some 66), .len (.t 65), (some (64, false))⟩,
  ⟨(some 67), .mv (.t 5), (some (64, false))⟩,
  ⟨(some 68), .bin .neq (.t 66) (.t 67), (some (64, false))⟩,
  ⟨(some 69), .pick (.t 64) (.k (.B true)) (.t 68), none⟩,
  ⟨(some 70), .mv (.t 69), none⟩,
  ⟨(some 71), .mv (.t 5), (some (70, false))⟩,
  ⟨(some 72), .bin .rem (.t 71) (.k (.I 2)), (some (70, false))⟩,
  ⟨(some 73), .bin .eql (.t 72) (.k (.I 0)), (some (70, false))⟩,
  ⟨(some 74), .iadA 3 2 (.t 3) (.k (.I 0)), (some (70, false))⟩,
  ⟨(some 75), .fad 0 (.t 74), (some (70, false))⟩,
  ⟨(some 76), .ld none (.t 75), (some (70, false))⟩,
  ⟨(some 77), .iadA 3 2 (.t 3) (.k (.I 1)), (some (70, false))⟩,
  ⟨(some 78), .fad 0 (.t 77), (some (70, false))⟩,
  ⟨(some 79), .ld none (.t 78), (some (70, false))⟩,
  ⟨(some 80), .bin .eql (.t 76) (.t 79), (some (70, false))⟩,
  ⟨(some 81), .beq true (.t 73) (.t 80), (some (70, false))⟩,
  ⟨(some 82), .pick (.t 70) (.k (.B true)) (.t 81), none⟩,
  ⟨(some 83), .mv (.t 82), none⟩,
  ⟨(some 84), .mv (.t 5), (some (83, false))⟩,
  ⟨(some 85), .bin .eql (.t 84) (.k (.I 0)), (some (83, false))⟩,
  ⟨(some 86), .iadA 3 2 (.t 3) (.k (.I 0)), (some (83, false))⟩,
  ⟨(some 87), .ld (some 2) (.t 86), (some (83, false))⟩,
  ⟨(some 88), .iadA 3 2 (.t 3) (.k (.I 1)), (some (83, false))⟩,
  ⟨(some 89), .ld (some 2) (.t 88), (some (83, false))⟩,
  ⟨(some 90), .eqs false [false, false] (.t 87) (.t 89), (some (83, false))⟩,
  ⟨(some 91), .beq true (.t 85) (.t 90), (some (83, false))⟩,
  ⟨(some 92), .pick (.t 83) (.k (.B true)) (.t 91), none⟩] false
abbrev c3_21 : AC := .reg [⟨(some 4), .mv (.k (.B false)), none⟩] false
abbrev c3_22 : AC := .seq c3_21 .ret
abbrev c3_23 : AC := .cond (.t 92) c3_22 .skip
abbrev c3_24 : AC := .seq c3_20 c3_23
abbrev c3_25 : AC := .reg [⟨(some 94), .ld (some 3) (.t 2), none⟩,
  ⟨(some 95), .iadA 3 2 (.t 3) (.k (.I 1)), none⟩,
  ⟨(some 96), .ld (some 2) (.t 95), none⟩,
  ⟨(some 97), .iadA 3 2 (.t 3) (.k (.I 2)), none⟩,
  ⟨(some 98), .ld (some 2) (.t 97), none⟩,
  ⟨(some 99), .call 12 [(.t 94), (.t 96), (.t 98)], none⟩,
  ⟨(some 93), .mv (.t 99), none⟩,
  ⟨(some 100), .ext (.t 93) 0, none⟩,
  ⟨(some 101), .ext (.t 93) 1, none⟩,
  ⟨(some 11), .mv (.t 100), none⟩,
  ⟨(some 12), .mv (.t 101), none⟩] false
abbrev c3_26 : AC := .reg [⟨(some 103), .ld (some 3) (.t 2), none⟩,
  ⟨(some 104), .iadA 3 2 (.t 3) (.k (.I 0)), none⟩,
  ⟨(some 105), .ld (some 2) (.t 104), none⟩,
  ⟨(some 106), .iadA 3 2 (.t 3) (.k (.I 2)), none⟩,
  ⟨(some 107), .ld (some 2) (.t 106), none⟩,
  ⟨(some 108), .call 12 [(.t 103), (.t 105), (.t 107)], none⟩,
  ⟨(some 102), .mv (.t 108), none⟩,
  ⟨(some 109), .ext (.t 102) 0, none⟩,
  ⟨(some 110), .ext (.t 102) 1, none⟩,
  ⟨(some 13), .mv (.t 109), none⟩,
  ⟨(some 14), .mv (.t 110), none⟩] false
abbrev c3_27 : AC := .reg [⟨(some 111), .mv (.t 12), none⟩,
  ⟨(some 112), .mv (.t 14), none⟩,
  ⟨(some 113), .bin .eql (.t 111) (.t 112), none⟩,
  ⟨(some 114), .mv (.t 113), none⟩,
  ⟨(some 115), .mv (.t 12), (some (114, true))⟩,
  ⟨(some 116), .bin .neq (.t 115) (.k (.I 0)), (some (114, true))⟩,
  ⟨(some 117), .mv (.t 116), (some (114, true))⟩,
  ⟨(some 118), .mv (.t 13), (some (117, false))⟩,
  ⟨(some 119), .mv (.t 5), (some (117, false))⟩,
  ⟨(some 120), .mv (.t 11), (some (117, false))⟩,
  ⟨(some 121), .bin .add (.t 119) (.t 120), (some (117, false))⟩,
  ⟨(some 122), .bin .leq (.t 118) (.t 121), (some (117, false))⟩,
  ⟨(some 123), .pick (.t 117) (.k (.B true)) (.t 122), (some (114, true))⟩,
  ⟨(some 124), .pick (.t 114) (.t 123) (.k (.B false)), none⟩,
  ⟨(some 4), .mv (.t 124), none⟩] false
abbrev c3_28 : AC := .seq c3_27 .ret
abbrev c3_29 : AC := .seq c3_26 c3_28
abbrev c3_30 : AC := .seq c3_25 c3_29
abbrev c3_31 : AC := .seq c3_24 c3_30
abbrev c3_32 : AC := .seq c3_19 c3_31
abbrev c3_33 : AC := .seq c3_18 c3_32
abbrev c3_34 : AC := .seq c3_13 c3_33
abbrev c3_35 : AC := .seq c3_8 c3_34
abbrev c3_36 : AC := .seq c3_7 c3_35
abbrev c3_37 : AC := .seq c3_6 c3_36
abbrev c3_38 : AC := .seq c3_1 c3_37
abbrev c3 : AC := c3_38
/- coinage/coinagelaw14.ComponentPaths -/
/- coinage/coinagelaw14.ComponentParts -/
/- coinage/coinagelaw14.ComponentGrows -/
/- coinage/coinagelaw14.ComponentPart -/
/- coinage/coinagelaw14.ComponentAll -/
/- coinage/coinagelaw14.ComponentTrees -/
abbrev c9_1 : AC := .reg [⟨(some 1), .box 25 (some 3) (.t 0), none⟩,
  ⟨(some 2), .mv (.k (.B false)), none⟩] false
abbrev c9_2 : AC := .reg [⟨(some 10), .call 10 [], none⟩,
  ⟨(some 11), .not (.t 10), none⟩,
  ⟨(some 12), .mv (.t 11), none⟩,
  ⟨(some 13), .ld (some 3) (.t 1), (some (12, false))⟩,
  ⟨(some 14), .call 11 [(.t 13)], (some (12, false))⟩,
  ⟨(some 15), .not (.t 14), (some (12, false))⟩,
  ⟨(some 16), .pick (.t 12) (.k (.B true)) (.t 15), none⟩] false
abbrev c9_3 : AC := .reg [⟨(some 17), .call 10 [], none⟩,
  ⟨(some 2), .mv (.t 17), none⟩] false
abbrev c9_4 : AC := .seq c9_3 .ret
abbrev c9_5 : AC := .cond (.t 16) c9_4 .skip
abbrev c9_6 : AC := .seq c9_2 c9_5
abbrev c9_7 : AC := .reg [⟨(some 19), .ld (some 3) (.t 1), none⟩,
  ⟨(some 20), .call 21 [(.t 19)], none⟩,
  ⟨(some 18), .mv (.t 20), none⟩,
  ⟨(some 21), .ext (.t 18) 0, none⟩,
  ⟨(some 22), .ext (.t 18) 1, none⟩,
  ⟨(some 3), .mv (.t 21), none⟩,
  ⟨(some 4), .mv (.t 22), none⟩] false
abbrev c9_8 : AC := .reg [⟨(some 23), .mv (.t 4), none⟩,
  ⟨(some 24), .bin .neq (.t 23) (.k (.I 0)), none⟩] false
abbrev c9_9 : AC := .reg [⟨(some 25), .mv (.t 3), none⟩,
  ⟨(some 26), .bin .eql (.t 25) (.k (.I 0)), none⟩,
  ⟨(some 27), .mv (.t 26), none⟩,
  ⟨(some 28), .ld (some 3) (.t 1), (some (27, true))⟩,
  ⟨(some 29), .call 32 [(.t 28)], (some (27, true))⟩,
  ⟨(some 30), .not (.t 29), (some (27, true))⟩,
  ⟨(some 31), .pick (.t 27) (.t 30) (.k (.B false)), none⟩,
  ⟨(some 2), .mv (.t 31), none⟩] false
abbrev c9_10 : AC := .seq c9_9 .ret
abbrev c9_11 : AC := .cond (.t 24) c9_10 .skip
abbrev c9_12 : AC := .seq c9_8 c9_11
abbrev c9_13 : AC := .reg [⟨(some 5), .mv (.k (.I 0)), none⟩] false
abbrev c9_14 : AC := .reg [⟨(some 6), .mv (.k (.I 0)), none⟩] false
abbrev c9_15 : AC := .reg [⟨(some 32), .mv (.t 6), none⟩,
  ⟨(some 33), .fad 2 (.t 1), none⟩,
  ⟨(some 34), .ld none (.t 33), none⟩,
  ⟨(some 35), .len (.t 34), none⟩,
  ⟨(some 36), .bin .lss (.t 32) (.t 35), none⟩] false
abbrev c9_16 : AC := .cond (.t 36) .skip (.exit 0)
abbrev c9_17 : AC := .seq c9_15 c9_16
abbrev c9_18 : AC := .reg [⟨(some 39), .fad 2 (.t 1), none⟩,
  ⟨(some 40), .ld none (.t 39), none⟩,
  ⟨(some 41), .mv (.t 6), none⟩,
  ⟨(some 42), .iad 3 (.t 40) (.t 41), none⟩,
  ⟨(some 43), .ld (some 3) (.t 42), none⟩,
  ⟨(some 7), .alloc 47 [(.I 0), (.I 0), (.I 0)], none⟩,
  ⟨none, .st (some 3) (.t 7) (.t 43), none⟩] false
abbrev c9_19 : AC := .reg [⟨(some 45), .ld (some 3) (.t 1), none⟩,
  ⟨(some 46), .fad 0 (.t 7), none⟩,
  ⟨(some 47), .ld none (.t 46), none⟩,
  ⟨(some 48), .call 33 [(.t 45), (.t 47)], none⟩,
  ⟨(some 44), .mv (.t 48), none⟩,
  ⟨(some 49), .ext (.t 44) 0, none⟩,
  ⟨(some 50), .ext (.t 44) 1, none⟩,
  ⟨(some 8), .alloc 25 [(.c .nil), (.c .nil), (.c .nil)], none⟩,
  ⟨none, .st (some 3) (.t 8) (.t 49), none⟩,
  ⟨(some 9), .mv (.t 50), none⟩] false
abbrev c9_20 : AC := .reg [⟨(some 51), .mv (.t 9), none⟩,
  ⟨(some 52), .bin .neq (.t 51) (.k (.I 0)), none⟩] false
abbrev c9_21 : AC := .reg [⟨(some 2), .mv (.k (.B false)), none⟩] false
abbrev c9_22 : AC := .seq c9_21 .ret
abbrev c9_23 : AC := .cond (.t 52) c9_22 .skip
abbrev c9_24 : AC := .seq c9_20 c9_23
abbrev c9_25 : AC := .reg [⟨(some 53), .ld (some 3) (.t 8), none⟩,
  ⟨(some 54), .fad 1 (.t 7), none⟩,
  ⟨(some 55), .ld none (.t 54), none⟩,
  ⟨(some 56), .build [(.I 0), (.I 0)] [(1, 1, (.t 55))], none⟩,
  ⟨(some 57), .fad 2 (.t 7), none⟩,
  ⟨(some 58), .ld none (.t 57), none⟩,
  ⟨(some 59), .build [(.I 0), (.I 0)] [(0, 1, (.k (.I 1))), (1, 1, (.t 58))], none⟩,
  ⟨(some 60), .call 17 [(.t 53), (.t 56), (.t 59)], none⟩] false
abbrev c9_26 : AC := .reg [⟨(some 61), .mv (.t 5), none⟩,
  ⟨(some 62), .bin .add (.t 61) (.k (.I 1)), none⟩,
  ⟨(some 5), .mv (.t 62), none⟩] false
abbrev c9_27 : AC := .cond (.t 60) c9_26 .skip
abbrev c9_28 : AC := .seq c9_25 c9_27
abbrev c9_29 : AC := .seq c9_24 c9_28
abbrev c9_30 : AC := .seq c9_19 c9_29
abbrev c9_31 : AC := .seq c9_18 c9_30
abbrev c9_32 : AC := .block 1 c9_31
abbrev c9_33 : AC := .reg [⟨(some 37), .mv (.t 6), none⟩,
  ⟨(some 38), .bin .add (.t 37) (.k (.I 1)), none⟩,
  ⟨(some 6), .mv (.t 38), none⟩] false
abbrev c9_34 : AC := .seq c9_32 c9_33
abbrev c9_35 : AC := .seq c9_17 c9_34
abbrev c9_36 : AC := .loop c9_35
abbrev c9_37 : AC := .block 0 c9_36
abbrev c9_38 : AC := .seq c9_14 c9_37
abbrev c9_39 : AC := .reg [⟨(some 63), .mv (.t 3), none⟩,
  ⟨(some 64), .bin .geq (.t 63) (.k (.I 0)), none⟩,
  ⟨(some 65), .mv (.t 64), none⟩,
  ⟨(some 66), .mv (.t 3), (some (65, true))⟩,
  ⟨(some 67), .bin .eql (.t 66) (.k (.I 0)), (some (65, true))⟩,
  ⟨(some 68), .mv (.t 5), (some (65, true))⟩,
  ⟨(some 69), .bin .eql (.t 68) (.k (.I 0)), (some (65, true))⟩,
  ⟨(some 70), .beq false (.t 67) (.t 69), (some (65, true))⟩,
  ⟨(some 71), .pick (.t 65) (.t 70) (.k (.B false)), none⟩,
  ⟨(some 2), .mv (.t 71), none⟩] false
abbrev c9_40 : AC := .seq c9_39 .ret
abbrev c9_41 : AC := .seq c9_38 c9_40
abbrev c9_42 : AC := .seq c9_13 c9_41
abbrev c9_43 : AC := .seq c9_12 c9_42
abbrev c9_44 : AC := .seq c9_7 c9_43
abbrev c9_45 : AC := .seq c9_6 c9_44
abbrev c9_46 : AC := .seq c9_1 c9_45
abbrev c9 : AC := c9_46
theorem code9 : fnCode Try.prog 9 = some (c9, [2], 72) := by kernel_rfl
/- coinage/coinagelaw14.awake -/
abbrev c10_1 : AC := .reg [⟨(some 0), .mv (.k (.B false)), none⟩] false
abbrev c10_2 : AC := .reg [⟨(some 6), .call 34 [], none⟩,
  ⟨(some 7), .call 19 [(.t 6)], none⟩,
  ⟨(some 5), .mv (.t 7), none⟩,
  ⟨(some 8), .ext (.t 5) 0, none⟩,
  ⟨(some 9), .ext (.t 5) 1, none⟩,
  ⟨(some 1), .mv (.t 8), none⟩,
  ⟨(some 2), .mv (.t 9), none⟩] false
abbrev c10_3 : AC := .reg [⟨(some 11), .call 34 [], none⟩,
  ⟨(some 12), .build [(.I 0), (.I 0)] [(1, 1, (.k (.I 3)))], none⟩,
  ⟨(some 13), .build [(.I 0), (.I 0)] [(0, 1, (.k (.I 1))), (1, 1, (.k (.I 2)))], none⟩,
  ⟨(some 14), .call 13 [(.t 11), (.t 12), (.t 13)], none⟩,
  ⟨(some 10), .mv (.t 14), none⟩,
  ⟨(some 15), .ext (.t 10) 0, none⟩,
  ⟨(some 16), .ext (.t 10) 1, none⟩,
  ⟨(some 3), .mv (.t 15), none⟩,
  ⟨(some 4), .mv (.t 16), none⟩] false
abbrev c10_4 : AC := .reg [⟨(some 17), .mv (.t 2), none⟩,
  ⟨(some 18), .bin .eql (.t 17) (.k (.I 0)), none⟩,
  ⟨(some 19), .mv (.t 18), none⟩,
  ⟨(some 20), .mv (.t 1), (some (19, true))⟩,
  ⟨(some 21), .bslice 3 1 [(.k (.I 0)), (.k (.I 0)), (.k (.I 1)), (.k (.I 0)), (.k (.I 0)), (.k (.I 1))], (some (19, true))⟩,
  ⟨(some 22), .call 16 [(.t 20), (.t 21)], (some (19, true))⟩,
  ⟨(some 23), .pick (.t 19) (.t 22) (.k (.B false)), none⟩,
  ⟨(some 24), .mv (.t 23), none⟩,
  ⟨(some 25), .mv (.t 4), (some (24, true))⟩,
  ⟨(some 26), .bin .eql (.t 25) (.k (.I 0)), (some (24, true))⟩,
  ⟨(some 27), .pick (.t 24) (.t 26) (.k (.B false)), none⟩,
  ⟨(some 28), .mv (.t 27), none⟩,
  ⟨(some 29), .mv (.t 3), (some (28, true))⟩,
  ⟨(some 30), .bslice 3 1 [(.k (.I 5)), (.k (.I 3)), (.k (.I 7))], (some (28, true))⟩,
  ⟨(some 31), .call 16 [(.t 29), (.t 30)], (some (28, true))⟩,
  ⟨(some 32), .pick (.t 28) (.t 31) (.k (.B false)), none⟩,
  ⟨(some 0), .mv (.t 32), none⟩] false
abbrev c10_5 : AC := .seq c10_4 .ret
abbrev c10_6 : AC := .seq c10_3 c10_5
abbrev c10_7 : AC := .seq c10_2 c10_6
abbrev c10_8 : AC := .seq c10_1 c10_7
abbrev c10 : AC := c10_8
theorem code10 : fnCode Try.prog 10 = some (c10, [0], 33) := by kernel_rfl
/- coinage/coinagelaw14.few -/
abbrev c11_1 : AC := .reg [⟨(some 1), .box 25 (some 3) (.t 0), none⟩,
  ⟨(some 2), .mv (.k (.B false)), none⟩] false
abbrev c11_2 : AC := .reg [⟨(some 3), .fad 0 (.t 1), none⟩,
  ⟨(some 4), .ld none (.t 3), none⟩,
  ⟨(some 5), .len (.t 4), none⟩,
  ⟨(some 6), .bin .leq (.t 5) (.k (.I 40)), none⟩,
  ⟨(some 7), .mv (.t 6), none⟩,
  ⟨(some 8), .fad 1 (.t 1), (some (7, true))⟩,
  ⟨(some 9), .ld none (.t 8), (some (7, true))⟩,
  ⟨(some 10), .len (.t 9), (some (7, true))⟩,
  ⟨(some 11), .bin .leq (.t 10) (.k (.I 40)), (some (7, true))⟩,
  ⟨(some 12), .pick (.t 7) (.t 11) (.k (.B false)), none⟩,
  ⟨(some 13), .mv (.t 12), none⟩,
  ⟨(some 14), .fad 2 (.t 1), (some (13, true))⟩,
  ⟨(some 15), .ld none (.t 14), (some (13, true))⟩,
  ⟨(some 16), .len (.t 15), (some (13, true))⟩,
  ⟨(some 17), .bin .leq (.t 16) (.k (.I 70)), (some (13, true))⟩,
  ⟨(some 18), .pick (.t 13) (.t 17) (.k (.B false)), none⟩,
  ⟨(some 2), .mv (.t 18), none⟩] false
abbrev c11_3 : AC := .seq c11_2 .ret
abbrev c11_4 : AC := .seq c11_1 c11_3
abbrev c11 : AC := c11_4
theorem code11 : fnCode Try.prog 11 = some (c11, [2], 19) := by kernel_rfl
/- coinage/component.Distance -/
/- coinage/component.Path -/
abbrev c13_1 : AC := .reg [⟨(some 3), .box 25 (some 3) (.t 0), none⟩,
  ⟨(some 4), .box 27 (some 2) (.t 1), none⟩,
  ⟨(some 5), .box 27 (some 2) (.t 2), none⟩,
  ⟨(some 6), .mv (.k (.c .nil)), none⟩,
  ⟨(some 7), .mv (.k (.I 0)), none⟩] false
abbrev c13_2 : AC := .reg [⟨(some 17), .ld (some 3) (.t 3), none⟩,
  ⟨(some 18), .ld (some 2) (.t 5), none⟩,
  ⟨(some 19), .ld (some 2) (.t 4), none⟩,
  ⟨(some 20), .call 35 [(.t 17), (.t 18), (.t 19)], none⟩,
  ⟨(some 16), .mv (.t 20), none⟩,
  ⟨(some 21), .ext (.t 16) 0, none⟩,
  ⟨(some 22), .ext (.t 16) 1, none⟩,
  ⟨(some 8), .mv (.t 21), none⟩,
  ⟨(some 9), .mv (.t 22), none⟩] false
abbrev c13_3 : AC := .reg [⟨(some 23), .mv (.t 9), none⟩,
  ⟨(some 24), .bin .neq (.t 23) (.k (.I 0)), none⟩] false
abbrev c13_4 : AC := .reg [⟨(some 25), .mv (.t 9), none⟩,
  ⟨(some 6), .mv (.k (.c .nil)), none⟩,
  ⟨(some 7), .mv (.t 25), none⟩] false
abbrev c13_5 : AC := .seq c13_4 .ret
abbrev c13_6 : AC := .cond (.t 24) c13_5 .skip
abbrev c13_7 : AC := .seq c13_3 c13_6
abbrev c13_8 : AC := .reg [⟨(some 10), .mv (.k (.c .nil)), none⟩] false
abbrev c13_9 : AC := .reg [⟨(some 26), .ld (some 2) (.t 4), none⟩,
  ⟨(some 11), .alloc 27 [(.I 0), (.I 0)], none⟩,
  ⟨none, .st (some 2) (.t 11) (.t 26), none⟩] false
abbrev c13_10 : AC := .reg [⟨(some 27), .ld (some 2) (.t 11), none⟩,
  ⟨(some 28), .ld (some 2) (.t 5), none⟩,
  ⟨(some 29), .eqs true [false, false] (.t 27) (.t 28), none⟩] false
abbrev c13_11 : AC := .cond (.t 29) .skip (.exit 0)
abbrev c13_12 : AC := .seq c13_10 c13_11
abbrev c13_13 : AC := .reg [⟨(some 30), .fad 2 (.t 3), none⟩,
  ⟨(some 31), .ld none (.t 30), none⟩,
  ⟨(some 32), .len (.t 31), none⟩,
  ⟨(some 33), .mv (.k (.I 0)), none⟩] false
abbrev c13_14 : AC := .reg [⟨(some 34), .bin .lss (.t 33) (.t 32), none⟩] false
abbrev c13_15 : AC := .cond (.t 34) .skip (.exit 2)
abbrev c13_16 : AC := .reg [⟨(some 35), .iad 3 (.t 31) (.t 33), none⟩,
  ⟨(some 36), .ld (some 3) (.t 35), none⟩,
  ⟨(some 13), .alloc 47 [(.I 0), (.I 0), (.I 0)], none⟩,
  ⟨none, .st (some 3) (.t 13) (.t 36), none⟩] false
abbrev c13_17 : AC := .reg [⟨(some 38), .ld (some 3) (.t 13), none⟩,
  ⟨(some 39), .ld (some 2) (.t 11), none⟩,
  ⟨(some 40), .call 36 [(.t 38), (.t 39)], none⟩,
  ⟨(some 37), .mv (.t 40), none⟩,
  ⟨(some 41), .ext (.t 37) 0, none⟩,
  ⟨(some 42), .ext (.t 37) 1, none⟩,
  ⟨(some 14), .alloc 27 [(.I 0), (.I 0)], none⟩,
  ⟨none, .st (some 2) (.t 14) (.t 41), none⟩,
  ⟨(some 15), .mv (.t 42), none⟩] false
abbrev c13_18 : AC := .regD [(⟨(some 43), .mv (.t 15), none⟩, [15]),
  (⟨(some 44), .mv (.t 43), none⟩, [43]),
  (⟨(some 45), .mv (.t 8), (some (44, true))⟩, [8, 44]),
  (⟨(some 46), .ld (some 2) (.t 14), (some (44, true))⟩, [14, 44]),
  (⟨(some 47), .look (.agg [.i64, .i64]) (.inl (.sc (.int .i64 0))) false (.t 45) (.t 46), (some (44, true))⟩, [45, 46, 44]),
  (⟨(some 48), .mv (.t 8), (some (44, true))⟩, [8, 44]),
  (⟨(some 49), .ld (some 2) (.t 11), (some (44, true))⟩, [11, 44]),
  (⟨(some 50), .look (.agg [.i64, .i64]) (.inl (.sc (.int .i64 0))) false (.t 48) (.t 49), (some (44, true))⟩, [48, 49, 44]),
  (⟨(some 51), .bin .sub (.t 50) (.k (.I 1)), (some (44, true))⟩, [50, 44]),
  (⟨(some 52), .bin .eql (.t 47) (.t 51), (some (44, true))⟩, [47, 51, 44]),
  (⟨(some 53), .pick (.t 44) (.t 52) (.k (.B false)), none⟩, [44, 52])]
abbrev c13_19 : AC := .reg [⟨(some 54), .mv (.t 10), none⟩,
  ⟨(some 55), .fad 0 (.t 13), none⟩,
  ⟨(some 56), .ld none (.t 55), none⟩,
  ⟨(some 57), .bslice 3 1 [(.t 56)], none⟩,
  ⟨(some 58), .app 3 1 8 (.t 54) (.t 57), none⟩,
  ⟨(some 10), .mv (.t 58), none⟩] false
abbrev c13_20 : AC := .reg [⟨(some 59), .ld (some 2) (.t 14), none⟩,
  ⟨none, .st (some 2) (.t 11) (.t 59), none⟩] false
abbrev c13_21 : AC := .seq c13_20 (.exit 2)
abbrev c13_22 : AC := .seq c13_19 c13_21
abbrev c13_23 : AC := .cond (.t 53) c13_22 .skip
abbrev c13_24 : AC := .seq c13_18 c13_23
abbrev c13_25 : AC := .seq c13_17 c13_24
abbrev c13_26 : AC := .seq c13_16 c13_25
abbrev c13_27 : AC := .block 3 c13_26
abbrev c13_28 : AC := .reg [⟨(some 60), .bin .add (.t 33) (.k (.I 1)), none⟩,
  ⟨(some 33), .mv (.t 60), none⟩] false
abbrev c13_29 : AC := .seq c13_27 c13_28
abbrev c13_30 : AC := .seq c13_15 c13_29
abbrev c13_31 : AC := .seq c13_14 c13_30
abbrev c13_32 : AC := .loop c13_31
abbrev c13_33 : AC := .block 2 c13_32
abbrev c13_34 : AC := .seq c13_13 c13_33
abbrev c13_35 : AC := .block 1 c13_34
abbrev c13_36 : AC := .reg [⟨(some 61), .ld (some 2) (.t 11), none⟩] false
abbrev c13_37 : AC := .reg [⟨(some 11), .alloc 27 [(.I 0), (.I 0)], none⟩,
  ⟨none, .st (some 2) (.t 11) (.t 61), none⟩] false
abbrev c13_38 : AC := .seq c13_36 c13_37
abbrev c13_39 : AC := .seq c13_35 c13_38
abbrev c13_40 : AC := .seq c13_12 c13_39
abbrev c13_41 : AC := .loop c13_40
abbrev c13_42 : AC := .block 0 c13_41
abbrev c13_43 : AC := .seq c13_9 c13_42
abbrev c13_44 : AC := .reg [⟨(some 62), .mv (.t 10), none⟩,
  ⟨(some 6), .mv (.t 62), none⟩,
  ⟨(some 7), .mv (.k (.I 0)), none⟩] false
abbrev c13_45 : AC := .seq c13_44 .ret
abbrev c13_46 : AC := .seq c13_43 c13_45
abbrev c13_47 : AC := .seq c13_8 c13_46
abbrev c13_48 : AC := .seq c13_7 c13_47
abbrev c13_49 : AC := .seq c13_2 c13_48
abbrev c13_50 : AC := .seq c13_1 c13_49
abbrev c13 : AC := c13_50
theorem code13 : fnCode Try.prog 13 = some (c13, [6, 7], 63) := by kernel_rfl
/- coinage/coinageref14.Path -/
/- coinage/coinageref14.Distance -/
/- coinage/coinagebase.Ints -/
abbrev c16_1 : AC := .reg [⟨(some 4), .mv (.k (.B false)), none⟩] false
abbrev c16_2 : AC := .reg [⟨(some 6), .mv (.t 0), none⟩,
  ⟨(some 7), .len (.t 6), none⟩,
  ⟨(some 8), .mv (.t 1), none⟩,
  ⟨(some 9), .len (.t 8), none⟩,
  ⟨(some 10), .bin .neq (.t 7) (.t 9), none⟩] false
abbrev c16_3 : AC := .reg [⟨(some 4), .mv (.k (.B false)), none⟩] false
abbrev c16_4 : AC := .seq c16_3 .ret
abbrev c16_5 : AC := .cond (.t 10) c16_4 .skip
abbrev c16_6 : AC := .seq c16_2 c16_5
abbrev c16_7 : AC := .reg [⟨(some 5), .mv (.k (.I 0)), none⟩] false
abbrev c16_8 : AC := .reg [⟨(some 11), .mv (.t 5), none⟩,
  ⟨(some 12), .mv (.t 0), none⟩,
  ⟨(some 13), .len (.t 12), none⟩,
  ⟨(some 14), .bin .lss (.t 11) (.t 13), none⟩] false
abbrev c16_9 : AC := .cond (.t 14) .skip (.exit 0)
abbrev c16_10 : AC := .seq c16_8 c16_9
abbrev c16_11 : AC := .regD [(⟨(some 17), .mv (.t 0), none⟩, [0]),
  (⟨(some 18), .mv (.t 5), none⟩, [5]),
  (⟨(some 19), .iad 1 (.t 17) (.t 18), none⟩, [17, 18]),
  (⟨(some 20), .ld none (.t 19), none⟩, [19]),
  (⟨(some 21), .mv (.t 1), none⟩, [1]),
  (⟨(some 22), .mv (.t 5), none⟩, [5]),
  (⟨(some 23), .iad 1 (.t 21) (.t 22), none⟩, [21, 22]),
  (⟨(some 24), .ld none (.t 23), none⟩, [23]),
  (⟨(some 25), .bin .neq (.t 20) (.t 24), none⟩, [20, 24])]
abbrev c16_12 : AC := .reg [⟨(some 4), .mv (.k (.B false)), none⟩] false
abbrev c16_13 : AC := .seq c16_12 .ret
abbrev c16_14 : AC := .cond (.t 25) c16_13 .skip
abbrev c16_15 : AC := .seq c16_11 c16_14
abbrev c16_16 : AC := .block 1 c16_15
abbrev c16_17 : AC := .reg [⟨(some 15), .mv (.t 5), none⟩,
  ⟨(some 16), .bin .add (.t 15) (.k (.I 1)), none⟩,
  ⟨(some 5), .mv (.t 16), none⟩] false
abbrev c16_18 : AC := .seq c16_16 c16_17
abbrev c16_19 : AC := .seq c16_10 c16_18
abbrev c16_20 : AC := .loop c16_19
abbrev c16_21 : AC := .block 0 c16_20
abbrev c16_22 : AC := .seq c16_7 c16_21
abbrev c16_23 : AC := .reg [⟨(some 4), .mv (.k (.B true)), none⟩] false
abbrev c16_24 : AC := .seq c16_23 .ret
abbrev c16_25 : AC := .seq c16_22 c16_24
abbrev c16_26 : AC := .seq c16_6 c16_25
abbrev c16_27 : AC := .seq c16_1 c16_26
abbrev c16 : AC := c16_27
theorem code16 : fnCode Try.prog 16 = some (c16, [4], 26) := by kernel_rfl
/- coinage/component.Joined -/
abbrev c17_1 : AC := .reg [⟨(some 3), .box 25 (some 3) (.t 0), none⟩,
  ⟨(some 4), .box 27 (some 2) (.t 1), none⟩,
  ⟨(some 5), .box 27 (some 2) (.t 2), none⟩,
  ⟨(some 6), .mv (.k (.B false)), none⟩] false
abbrev c17_2 : AC := .reg [⟨(some 10), .ld (some 3) (.t 3), none⟩,
  ⟨(some 11), .ld (some 2) (.t 4), none⟩,
  ⟨(some 12), .ld (some 2) (.t 5), none⟩,
  ⟨(some 13), .call 35 [(.t 10), (.t 11), (.t 12)], none⟩,
  ⟨(some 9), .mv (.t 13), none⟩,
  ⟨(some 14), .ext (.t 9) 0, none⟩,
  ⟨(some 15), .ext (.t 9) 1, none⟩,
  ⟨(some 7), .mv (.t 14), none⟩,
  ⟨(some 8), .mv (.t 15), none⟩] false
abbrev c17_3 : AC := .reg [⟨(some 16), .mv (.t 8), none⟩,
  ⟨(some 17), .bin .eql (.t 16) (.k (.I 0)), none⟩,
  ⟨(some 6), .mv (.t 17), none⟩] false
abbrev c17_4 : AC := .seq c17_3 .ret
abbrev c17_5 : AC := .seq c17_2 c17_4
abbrev c17_6 : AC := .seq c17_1 c17_5
abbrev c17 : AC := c17_6
theorem code17 : fnCode Try.prog 17 = some (c17, [6], 18) := by kernel_rfl
/- coinage/coinageref14.Joined -/
/- coinage/component.Parts -/
abbrev c19_1 : AC := .reg [⟨(some 1), .box 25 (some 3) (.t 0), none⟩,
  ⟨(some 2), .mv (.k (.c .nil)), none⟩,
  ⟨(some 3), .mv (.k (.I 0)), none⟩] false
abbrev c19_2 : AC := .reg [⟨(some 15), .ld (some 3) (.t 1), none⟩,
  ⟨(some 16), .call 41 [(.t 15)], none⟩,
  ⟨(some 14), .mv (.t 16), none⟩,
  ⟨(some 17), .ext (.t 14) 0, none⟩,
  ⟨(some 18), .ext (.t 14) 1, none⟩,
  ⟨(some 4), .mv (.t 17), none⟩,
  ⟨(some 5), .mv (.t 18), none⟩] false
abbrev c19_3 : AC := .reg [⟨(some 19), .mv (.t 5), none⟩,
  ⟨(some 20), .bin .neq (.t 19) (.k (.I 0)), none⟩] false
abbrev c19_4 : AC := .reg [⟨(some 21), .mv (.t 5), none⟩,
  ⟨(some 2), .mv (.k (.c .nil)), none⟩,
  ⟨(some 3), .mv (.t 21), none⟩] false
abbrev c19_5 : AC := .seq c19_4 .ret
abbrev c19_6 : AC := .cond (.t 20) c19_5 .skip
abbrev c19_7 : AC := .seq c19_3 c19_6
abbrev c19_8 : AC := .reg [⟨(some 22), .mkmap (.agg [.i64, .i64]), none⟩,
  ⟨(some 6), .mv (.t 22), none⟩] false
abbrev c19_9 : AC := .reg [⟨(some 7), .mv (.k (.c .nil)), none⟩] false
abbrev c19_10 : AC := .reg [⟨(some 8), .mv (.k (.I 0)), none⟩] false
abbrev c19_11 : AC := .reg [⟨(some 23), .mv (.t 4), none⟩,
  ⟨(some 24), .len (.t 23), none⟩,
  ⟨(some 25), .mv (.k (.I 0)), none⟩] false
abbrev c19_12 : AC := .reg [⟨(some 26), .bin .lss (.t 25) (.t 24), none⟩] false
abbrev c19_13 : AC := .cond (.t 26) .skip (.exit 0)
abbrev c19_14 : AC := .reg [⟨(some 27), .iad 2 (.t 23) (.t 25), none⟩,
  ⟨(some 28), .ld (some 2) (.t 27), none⟩,
  ⟨(some 10), .alloc 27 [(.I 0), (.I 0)], none⟩,
  ⟨none, .st (some 2) (.t 10) (.t 28), none⟩] false
abbrev c19_15 : AC := .reg [⟨(some 30), .mv (.t 6), none⟩,
  ⟨(some 31), .ld (some 2) (.t 10), none⟩,
  ⟨(some 32), .look (.agg [.i64, .i64]) (.inl (.sc (.int .i64 0))) true (.t 30) (.t 31), none⟩,
  ⟨(some 29), .mv (.t 32), none⟩,
  ⟨(some 33), .ext (.t 29) 0, none⟩,
  ⟨(some 34), .ext (.t 29) 1, none⟩,
  ⟨(some 11), .mv (.t 33), none⟩,
  ⟨(some 12), .mv (.t 34), none⟩] false
abbrev c19_16 : AC := .reg [⟨(some 35), .mv (.t 12), none⟩,
  ⟨(some 36), .not (.t 35), none⟩] false
abbrev c19_17 : AC := .reg [⟨(some 37), .ld (some 3) (.t 1), none⟩,
  ⟨(some 38), .ld (some 2) (.t 10), none⟩,
  ⟨(some 39), .call 42 [(.t 37), (.t 38)], none⟩,
  ⟨(some 40), .mrange (.t 39), none⟩] false
abbrev c19_18 : AC := .reg [⟨(some 41), .mnext (.t 40), none⟩,
  ⟨(some 42), .ext (.t 41) 0, none⟩] false
abbrev c19_19 : AC := .cond (.t 42) .skip (.exit 2)
abbrev c19_20 : AC := .reg [⟨(some 43), .mentry (.t 40), none⟩,
  ⟨(some 44), .ext (.t 43) 0, none⟩,
  ⟨(some 13), .alloc 27 [(.I 0), (.I 0)], none⟩,
  ⟨none, .st (some 2) (.t 13) (.t 44), none⟩] false
abbrev c19_21 : AC := .reg [⟨(some 45), .mv (.t 6), none⟩,
  ⟨(some 46), .ld (some 2) (.t 13), none⟩,
  ⟨(some 47), .mv (.t 8), none⟩,
  ⟨none, .mset (.agg [.i64, .i64]) (.t 45) (.t 46) (.t 47), none⟩] false
abbrev c19_22 : AC := .seq c19_20 c19_21
abbrev c19_23 : AC := .block 3 c19_22
abbrev c19_24 : AC := .seq c19_19 c19_23
abbrev c19_25 : AC := .seq c19_18 c19_24
abbrev c19_26 : AC := .loop c19_25
abbrev c19_27 : AC := .block 2 c19_26
abbrev c19_28 : AC := .seq c19_17 c19_27
abbrev c19_29 : AC := .reg [⟨(some 48), .mv (.t 8), none⟩,
  ⟨(some 49), .bin .add (.t 48) (.k (.I 1)), none⟩,
  ⟨(some 8), .mv (.t 49), none⟩] false
abbrev c19_30 : AC := .seq c19_28 c19_29
abbrev c19_31 : AC := .cond (.t 36) c19_30 .skip
abbrev c19_32 : AC := .seq c19_16 c19_31
abbrev c19_33 : AC := .seq c19_15 c19_32
abbrev c19_34 : AC := .reg [⟨(some 50), .mv (.t 7), none⟩,
  ⟨(some 51), .mv (.t 6), none⟩,
  ⟨(some 52), .ld (some 2) (.t 10), none⟩,
  ⟨(some 53), .look (.agg [.i64, .i64]) (.inl (.sc (.int .i64 0))) false (.t 51) (.t 52), none⟩,
  ⟨(some 54), .bslice 3 1 [(.t 53)], none⟩,
  ⟨(some 55), .app 3 1 8 (.t 50) (.t 54), none⟩,
  ⟨(some 7), .mv (.t 55), none⟩] false
abbrev c19_35 : AC := .seq c19_33 c19_34
abbrev c19_36 : AC := .seq c19_14 c19_35
abbrev c19_37 : AC := .block 1 c19_36
abbrev c19_38 : AC := .reg [⟨(some 56), .bin .add (.t 25) (.k (.I 1)), none⟩,
  ⟨(some 25), .mv (.t 56), none⟩] false
abbrev c19_39 : AC := .seq c19_37 c19_38
abbrev c19_40 : AC := .seq c19_13 c19_39
abbrev c19_41 : AC := .seq c19_12 c19_40
abbrev c19_42 : AC := .loop c19_41
abbrev c19_43 : AC := .block 0 c19_42
abbrev c19_44 : AC := .seq c19_11 c19_43
abbrev c19_45 : AC := .reg [⟨(some 57), .mv (.t 7), none⟩,
  ⟨(some 2), .mv (.t 57), none⟩,
  ⟨(some 3), .mv (.k (.I 0)), none⟩] false
abbrev c19_46 : AC := .seq c19_45 .ret
abbrev c19_47 : AC := .seq c19_44 c19_46
abbrev c19_48 : AC := .seq c19_10 c19_47
abbrev c19_49 : AC := .seq c19_9 c19_48
abbrev c19_50 : AC := .seq c19_8 c19_49
abbrev c19_51 : AC := .seq c19_7 c19_50
abbrev c19_52 : AC := .seq c19_2 c19_51
abbrev c19_53 : AC := .seq c19_1 c19_52
abbrev c19 : AC := c19_53
theorem code19 : fnCode Try.prog 19 = some (c19, [2, 3], 58) := by kernel_rfl
/- coinage/component.Chains -/
abbrev c20_1 : AC := .reg [⟨(some 1), .box 25 (some 3) (.t 0), none⟩,
  ⟨(some 2), .mv (.k (.c .nil)), none⟩,
  ⟨(some 3), .mv (.k (.I 0)), none⟩] false
abbrev c20_2 : AC := .reg [⟨(some 12), .ld (some 3) (.t 1), none⟩,
  ⟨(some 13), .call 19 [(.t 12)], none⟩,
  ⟨(some 11), .mv (.t 13), none⟩,
  ⟨(some 14), .ext (.t 11) 0, none⟩,
  ⟨(some 15), .ext (.t 11) 1, none⟩,
  ⟨(some 4), .mv (.t 14), none⟩,
  ⟨(some 5), .mv (.t 15), none⟩] false
abbrev c20_3 : AC := .reg [⟨(some 16), .mv (.t 5), none⟩,
  ⟨(some 17), .bin .neq (.t 16) (.k (.I 0)), none⟩] false
abbrev c20_4 : AC := .reg [⟨(some 18), .mv (.t 5), none⟩,
  ⟨(some 2), .mv (.k (.c .nil)), none⟩,
  ⟨(some 3), .mv (.t 18), none⟩] false
abbrev c20_5 : AC := .seq c20_4 .ret
abbrev c20_6 : AC := .cond (.t 17) c20_5 .skip
abbrev c20_7 : AC := .seq c20_3 c20_6
abbrev c20_8 : AC := .reg [⟨(some 20), .ld (some 3) (.t 1), none⟩,
  ⟨(some 21), .call 41 [(.t 20)], none⟩,
  ⟨(some 19), .mv (.t 21), none⟩,
  ⟨(some 22), .ext (.t 19) 0, none⟩,
  ⟨(some 23), .ext (.t 19) 1, none⟩,
  ⟨(some 6), .mv (.t 22), none⟩,
  ⟨(some 7), .mv (.t 23), none⟩] false
abbrev c20_9 : AC := .reg [⟨(some 8), .mv (.k (.c .nil)), none⟩] false
abbrev c20_10 : AC := .reg [⟨(some 24), .mv (.t 4), none⟩,
  ⟨(some 25), .len (.t 24), none⟩,
  ⟨(some 26), .mv (.k (.I 0)), none⟩] false
abbrev c20_11 : AC := .reg [⟨(some 27), .bin .lss (.t 26) (.t 25), none⟩] false
abbrev c20_12 : AC := .cond (.t 27) .skip (.exit 0)
abbrev c20_13 : AC := .reg [⟨(some 28), .mv (.t 26), none⟩,
  ⟨(some 29), .iad 1 (.t 24) (.t 26), none⟩,
  ⟨(some 30), .ld none (.t 29), none⟩,
  ⟨(some 9), .mv (.t 28), none⟩,
  ⟨(some 10), .mv (.t 30), none⟩] false
abbrev c20_14 : AC := .reg [⟨(some 31), .mv (.t 10), none⟩,
  ⟨(some 32), .mv (.t 8), none⟩,
  ⟨(some 33), .len (.t 32), none⟩,
  ⟨(some 34), .bin .eql (.t 31) (.t 33), none⟩] false
abbrev c20_15 : AC := .reg [⟨(some 35), .mv (.t 8), none⟩,
  ⟨(some 36), .bslice 54 1 [(.k (.c .nil))], none⟩,
  ⟨(some 37), .app 54 1 24 (.t 35) (.t 36), none⟩,
  ⟨(some 8), .mv (.t 37), none⟩] false
abbrev c20_16 : AC := .cond (.t 34) c20_15 .skip
abbrev c20_17 : AC := .seq c20_14 c20_16
abbrev c20_18 : AC := .regX (.first ⟨(some 38), .mv (.t 8), none⟩
  (.first ⟨(some 39), .mv (.t 10), none⟩
  (.first ⟨(some 40), .mv (.t 8), none⟩
  (.first ⟨(some 41), .mv (.t 10), none⟩
  (.first ⟨(some 42), .iad 1 (.t 40) (.t 41), none⟩
  (.first ⟨(some 44), .mv (.t 6), none⟩
  (.first ⟨(some 45), .mv (.t 9), none⟩
  (.first ⟨(some 46), .iad 2 (.t 44) (.t 45), none⟩
  (.fork ⟨(some 43), .ld none (.t 42), none⟩
  (.fork ⟨(some 47), .ld (some 2) (.t 46), none⟩
  (.fork ⟨(some 48), .bslice 27 2 [(.t 47)], none⟩
  (.fork ⟨(some 49), .app 27 2 16 (.t 43) (.t 48), none⟩
  (.first ⟨(some 50), .iad 1 (.t 38) (.t 39), none⟩
  (.fork ⟨none, .st none (.t 50) (.t 49), none⟩
  .done
  .nope))
  .nope)
  .nope)
  .nope)
  (.fork ⟨(some 47), .ld (some 2) (.t 46), none⟩
  (.fork ⟨(some 43), .ld none (.t 42), none⟩
  (.fork ⟨(some 48), .bslice 27 2 [(.t 47)], none⟩
  (.fork ⟨(some 49), .app 27 2 16 (.t 43) (.t 48), none⟩
  (.first ⟨(some 50), .iad 1 (.t 38) (.t 39), none⟩
  (.fork ⟨none, .st none (.t 50) (.t 49), none⟩
  .done
  .nope))
  .nope)
  .nope)
  (.fork ⟨(some 48), .bslice 27 2 [(.t 47)], none⟩
  (.fork ⟨(some 43), .ld none (.t 42), none⟩
  (.fork ⟨(some 49), .app 27 2 16 (.t 43) (.t 48), none⟩
  (.first ⟨(some 50), .iad 1 (.t 38) (.t 39), none⟩
  (.fork ⟨none, .st none (.t 50) (.t 49), none⟩
  .done
  .nope))
  .nope)
  .nope)
  .nope))
  .nope))))))))))
abbrev c20_19 : AC := .seq c20_17 c20_18
abbrev c20_20 : AC := .seq c20_13 c20_19
abbrev c20_21 : AC := .block 1 c20_20
abbrev c20_22 : AC := .reg [⟨(some 51), .bin .add (.t 26) (.k (.I 1)), none⟩,
  ⟨(some 26), .mv (.t 51), none⟩] false
abbrev c20_23 : AC := .seq c20_21 c20_22
abbrev c20_24 : AC := .seq c20_12 c20_23
abbrev c20_25 : AC := .seq c20_11 c20_24
abbrev c20_26 : AC := .loop c20_25
abbrev c20_27 : AC := .block 0 c20_26
abbrev c20_28 : AC := .seq c20_10 c20_27
abbrev c20_29 : AC := .reg [⟨(some 52), .mv (.t 8), none⟩,
  ⟨(some 2), .mv (.t 52), none⟩,
  ⟨(some 3), .mv (.k (.I 0)), none⟩] false
abbrev c20_30 : AC := .seq c20_29 .ret
abbrev c20_31 : AC := .seq c20_28 c20_30
abbrev c20_32 : AC := .seq c20_9 c20_31
abbrev c20_33 : AC := .seq c20_8 c20_32
abbrev c20_34 : AC := .seq c20_7 c20_33
abbrev c20_35 : AC := .seq c20_2 c20_34
abbrev c20_36 : AC := .seq c20_1 c20_35
abbrev c20 : AC := c20_36
theorem code20 : fnCode Try.prog 20 = some (c20, [2, 3], 53) := by kernel_rfl
/- coinage/component.Loops -/
abbrev c21_1 : AC := .reg [⟨(some 1), .box 25 (some 3) (.t 0), none⟩,
  ⟨(some 2), .mv (.k (.I 0)), none⟩,
  ⟨(some 3), .mv (.k (.I 0)), none⟩] false
abbrev c21_2 : AC := .reg [⟨(some 7), .ld (some 3) (.t 1), none⟩,
  ⟨(some 8), .call 20 [(.t 7)], none⟩,
  ⟨(some 6), .mv (.t 8), none⟩,
  ⟨(some 9), .ext (.t 6) 0, none⟩,
  ⟨(some 10), .ext (.t 6) 1, none⟩,
  ⟨(some 4), .mv (.t 9), none⟩,
  ⟨(some 5), .mv (.t 10), none⟩] false
abbrev c21_3 : AC := .reg [⟨(some 11), .mv (.t 5), none⟩,
  ⟨(some 12), .bin .neq (.t 11) (.k (.I 0)), none⟩] false
abbrev c21_4 : AC := .reg [⟨(some 13), .mv (.t 5), none⟩,
  ⟨(some 2), .mv (.k (.I 0)), none⟩,
  ⟨(some 3), .mv (.t 13), none⟩] false
abbrev c21_5 : AC := .seq c21_4 .ret
abbrev c21_6 : AC := .cond (.t 12) c21_5 .skip
abbrev c21_7 : AC := .seq c21_3 c21_6
abbrev c21_8 : AC := .reg [⟨(some 14), .fad 2 (.t 1), none⟩,
  ⟨(some 15), .ld none (.t 14), none⟩,
  ⟨(some 16), .len (.t 15), none⟩,
  ⟨(some 17), .fad 0 (.t 1), none⟩,
  ⟨(some 18), .ld none (.t 17), none⟩,
  ⟨(some 19), .len (.t 18), none⟩,
  ⟨(some 20), .bin .sub (.t 16) (.t 19), none⟩,
  ⟨(some 21), .fad 1 (.t 1), none⟩,
  ⟨(some 22), .ld none (.t 21), none⟩,
  ⟨(some 23), .len (.t 22), none⟩,
  ⟨(some 24), .bin .sub (.t 20) (.t 23), none⟩,
  ⟨(some 25), .mv (.t 4), none⟩,
  ⟨(some 26), .len (.t 25), none⟩,
  ⟨(some 27), .bin .add (.t 24) (.t 26), none⟩,
  ⟨(some 2), .mv (.t 27), none⟩,
  ⟨(some 3), .mv (.k (.I 0)), none⟩] false
abbrev c21_9 : AC := .seq c21_8 .ret
abbrev c21_10 : AC := .seq c21_7 c21_9
abbrev c21_11 : AC := .seq c21_2 c21_10
abbrev c21_12 : AC := .seq c21_1 c21_11
abbrev c21 : AC := c21_12
theorem code21 : fnCode Try.prog 21 = some (c21, [2, 3], 28) := by kernel_rfl
/- coinage/coinageref14.Parts -/
/- coinage/coinageref14.Chains -/
/- coinage/coinageref14.Loops -/
/- coinage/coinagebase.Chains -/
/- coinage/coinageref13.Valid -/
/- coinage/coinagebase.Mod -/
/- coinage/coinageref13.Made -/
/- coinage/component.Part -/
/- coinage/coinageref14.Part -/
/- coinage/coinagebase.Graphs -/
/- coinage/linkage.Valid -/
abbrev c32_1 : AC := .reg [⟨(some 1), .box 25 (some 3) (.t 0), none⟩,
  ⟨(some 2), .mv (.k (.B false)), none⟩] false
abbrev c32_2 : AC := .reg [⟨(some 6), .fad 0 (.t 1), none⟩,
  ⟨(some 7), .ld none (.t 6), none⟩,
  ⟨(some 8), .call 50 [(.t 7)], none⟩,
  ⟨(some 9), .not (.t 8), none⟩,
  ⟨(some 10), .mv (.t 9), none⟩,
  ⟨(some 11), .fad 1 (.t 1), (some (10, false))⟩,
  ⟨(some 12), .ld none (.t 11), (some (10, false))⟩,
  ⟨(some 13), .call 50 [(.t 12)], (some (10, false))⟩,
  ⟨(some 14), .not (.t 13), (some (10, false))⟩,
  ⟨(some 15), .pick (.t 10) (.k (.B true)) (.t 14), none⟩,
  ⟨(some 16), .mv (.t 15), none⟩,
  ⟨(some 17), .fad 2 (.t 1), (some (16, false))⟩,
  ⟨(some 18), .ld none (.t 17), (some (16, false))⟩,
  ⟨(some 19), .len (.t 18), (some (16, false))⟩,
  ⟨(some 20), .bin .gtr (.t 19) (.k (.I 64)), (some (16, false))⟩,
  ⟨(some 21), .pick (.t 16) (.k (.B true)) (.t 20), none⟩] false
abbrev c32_3 : AC := .reg [⟨(some 2), .mv (.k (.B false)), none⟩] false
abbrev c32_4 : AC := .seq c32_3 .ret
abbrev c32_5 : AC := .cond (.t 21) c32_4 .skip
abbrev c32_6 : AC := .seq c32_2 c32_5
abbrev c32_7 : AC := .reg [⟨(some 22), .fad 2 (.t 1), none⟩,
  ⟨(some 23), .ld none (.t 22), none⟩,
  ⟨(some 24), .len (.t 23), none⟩,
  ⟨(some 25), .mv (.k (.I 0)), none⟩] false
abbrev c32_8 : AC := .reg [⟨(some 26), .bin .lss (.t 25) (.t 24), none⟩] false
abbrev c32_9 : AC := .cond (.t 26) .skip (.exit 0)
abbrev c32_10 : AC := .reg [⟨(some 27), .mv (.t 25), none⟩,
  ⟨(some 28), .iad 3 (.t 23) (.t 25), none⟩,
  ⟨(some 29), .ld (some 3) (.t 28), none⟩,
  ⟨(some 4), .alloc 47 [(.I 0), (.I 0), (.I 0)], none⟩,
  ⟨(some 3), .mv (.t 27), none⟩,
  ⟨none, .st (some 3) (.t 4) (.t 29), none⟩] false
abbrev c32_11 : AC := .regD [(⟨(some 30), .fad 0 (.t 4), none⟩, [4]),
  (⟨(some 31), .ld none (.t 30), none⟩, [30]),
  (⟨(some 32), .bin .lss (.t 31) (.k (.I 1)), none⟩, [31]),
  (⟨(some 33), .mv (.t 32), none⟩, [32]),
  (⟨(some 34), .fad 0 (.t 4), (some (33, false))⟩, [4, 33]),
  (⟨(some 35), .ld none (.t 34), (some (33, false))⟩, [34, 33]),
  (⟨(some 36), .bin .gtr (.t 35) (.k (.I 9999)), (some (33, false))⟩, [35, 33]),
  (⟨(some 37), .pick (.t 33) (.k (.B true)) (.t 36), none⟩, [33, 36]),
  (⟨(some 38), .mv (.t 37), none⟩, [37]),
  (⟨(some 39), .mv (.t 3), (some (38, false))⟩, [3, 38]),
  (⟨(some 40), .bin .gtr (.t 39) (.k (.I 0)), (some (38, false))⟩, [39, 38]),
  (⟨(some 41), .mv (.t 40), (some (38, false))⟩, [40, 38]),
  (⟨(some 42), .fad 0 (.t 4), (some (41, true))⟩, [4, 41]),
  (⟨(some 43), .ld none (.t 42), (some (41, true))⟩, [42, 41]),
  (⟨(some 44), .fad 2 (.t 1), (some (41, true))⟩, [1, 41]),
  (⟨(some 45), .ld none (.t 44), (some (41, true))⟩, [44, 41]),
  (⟨(some 46), .mv (.t 3), (some (41, true))⟩, [3, 41]),
  (⟨(some 47), .bin .sub (.t 46) (.k (.I 1)), (some (41, true))⟩, [46, 41]),
  (⟨(some 48), .iad 3 (.t 45) (.t 47), (some (41, true))⟩, [45, 47, 41]),
  (⟨(some 49), .fad 0 (.t 48), (some (41, true))⟩, [48, 41]),
  (⟨(some 50), .ld none (.t 49), (some (41, true))⟩, [49, 41]),
  (⟨(some 51), .bin .leq (.t 43) (.t 50), (some (41, true))⟩, [43, 50, 41]),
  (⟨(some 52), .pick (.t 41) (.t 51) (.k (.B false)), (some (38, false))⟩, [41, 51, 38]),
  (⟨(some 53), .pick (.t 38) (.k (.B true)) (.t 52), none⟩, [38, 52]),
  (⟨(some 54), .mv (.t 53), none⟩, [53]),
  (⟨(some 55), .fad 0 (.t 1), (some (54, false))⟩, [1, 54]),
  (⟨(some 56), .ld none (.t 55), (some (54, false))⟩, [55, 54]),
  (⟨(some 57), .fad 1 (.t 4), (some (54, false))⟩, [4, 54]),
  (⟨(some 58), .ld none (.t 57), (some (54, false))⟩, [57, 54]),
  (⟨(some 59), .call 51 [(.t 56), (.t 58)], (some (54, false))⟩, [56, 58, 54]),
  (⟨(some 60), .not (.t 59), (some (54, false))⟩, [59, 54]),
  (⟨(some 61), .pick (.t 54) (.k (.B true)) (.t 60), none⟩, [54, 60]),
  (⟨(some 62), .mv (.t 61), none⟩, [61]),
  (⟨(some 63), .fad 1 (.t 1), (some (62, false))⟩, [1, 62]),
  (⟨(some 64), .ld none (.t 63), (some (62, false))⟩, [63, 62]),
  (⟨(some 65), .fad 2 (.t 4), (some (62, false))⟩, [4, 62]),
  (⟨(some 66), .ld none (.t 65), (some (62, false))⟩, [65, 62]),
  (⟨(some 67), .call 51 [(.t 64), (.t 66)], (some (62, false))⟩, [64, 66, 62]),
  (⟨(some 68), .not (.t 67), (some (62, false))⟩, [67, 62]),
  (⟨(some 69), .pick (.t 62) (.k (.B true)) (.t 68), none⟩, [62, 68])]
abbrev c32_12 : AC := .reg [⟨(some 2), .mv (.k (.B false)), none⟩] false
abbrev c32_13 : AC := .seq c32_12 .ret
abbrev c32_14 : AC := .cond (.t 69) c32_13 .skip
abbrev c32_15 : AC := .seq c32_11 c32_14
abbrev c32_16 : AC := .seq c32_10 c32_15
abbrev c32_17 : AC := .block 1 c32_16
abbrev c32_18 : AC := .reg [⟨(some 70), .bin .add (.t 25) (.k (.I 1)), none⟩,
  ⟨(some 25), .mv (.t 70), none⟩] false
abbrev c32_19 : AC := .seq c32_17 c32_18
abbrev c32_20 : AC := .seq c32_9 c32_19
abbrev c32_21 : AC := .seq c32_8 c32_20
abbrev c32_22 : AC := .loop c32_21
abbrev c32_23 : AC := .block 0 c32_22
abbrev c32_24 : AC := .seq c32_7 c32_23
abbrev c32_25 : AC := .reg [⟨(some 71), .fad 2 (.t 1), none⟩,
  ⟨(some 72), .ld none (.t 71), none⟩,
  ⟨(some 73), .call 52 [(.t 72)], none⟩,
  ⟨(some 5), .alloc 25 [(.c .nil), (.c .nil), (.c .nil)], none⟩,
  ⟨none, .st (some 3) (.t 5) (.t 73), none⟩] false
abbrev c32_26 : AC := .reg [⟨(some 74), .fad 0 (.t 5), none⟩,
  ⟨(some 75), .ld none (.t 74), none⟩,
  ⟨(some 76), .len (.t 75), none⟩,
  ⟨(some 77), .fad 0 (.t 1), none⟩,
  ⟨(some 78), .ld none (.t 77), none⟩,
  ⟨(some 79), .len (.t 78), none⟩,
  ⟨(some 80), .bin .eql (.t 76) (.t 79), none⟩,
  ⟨(some 81), .mv (.t 80), none⟩,
  ⟨(some 82), .fad 1 (.t 5), (some (81, true))⟩,
  ⟨(some 83), .ld none (.t 82), (some (81, true))⟩,
  ⟨(some 84), .len (.t 83), (some (81, true))⟩,
  ⟨(some 85), .fad 1 (.t 1), (some (81, true))⟩,
  ⟨(some 86), .ld none (.t 85), (some (81, true))⟩,
  ⟨(some 87), .len (.t 86), (some (81, true))⟩,
  ⟨(some 88), .bin .eql (.t 84) (.t 87), (some (81, true))⟩,
  ⟨(some 89), .pick (.t 81) (.t 88) (.k (.B false)), none⟩,
  ⟨(some 2), .mv (.t 89), none⟩] false
abbrev c32_27 : AC := .seq c32_26 .ret
abbrev c32_28 : AC := .seq c32_25 c32_27
abbrev c32_29 : AC := .seq c32_24 c32_28
abbrev c32_30 : AC := .seq c32_6 c32_29
abbrev c32_31 : AC := .seq c32_1 c32_30
abbrev c32 : AC := c32_31
theorem code32 : fnCode Try.prog 32 = some (c32, [2], 90) := by kernel_rfl
/- coinage/linkage.Without -/
abbrev c33_1 : AC := .reg [⟨(some 2), .box 25 (some 3) (.t 0), none⟩,
  ⟨(some 3), .box 3 none (.t 1), none⟩,
  ⟨(some 4), .alloc 25 [(.c .nil), (.c .nil), (.c .nil)], none⟩,
  ⟨(some 5), .mv (.k (.I 0)), none⟩] false
abbrev c33_2 : AC := .reg [⟨(some 7), .ld (some 3) (.t 2), none⟩,
  ⟨(some 8), .call 32 [(.t 7)], none⟩,
  ⟨(some 9), .not (.t 8), none⟩] false
abbrev c33_3 : AC := .reg [⟨(some 10), .build [(.c .nil), (.c .nil), (.c .nil)] [], none⟩,
  ⟨none, .st (some 3) (.t 4) (.t 10), none⟩,
  ⟨(some 5), .mv (.k (.I 1)), none⟩] false
abbrev c33_4 : AC := .seq c33_3 .ret
abbrev c33_5 : AC := .cond (.t 9) c33_4 .skip
abbrev c33_6 : AC := .seq c33_2 c33_5
abbrev c33_7 : AC := .reg [⟨(some 11), .fad 2 (.t 2), none⟩,
  ⟨(some 12), .ld none (.t 11), none⟩,
  ⟨(some 13), .call 54 [(.t 12)], none⟩,
  ⟨(some 14), .mkfn 55 [(.t 3)], none⟩,
  ⟨(some 15), .call 53 [(.t 13), (.t 14)], none⟩,
  ⟨(some 6), .mv (.t 15), none⟩] false
abbrev c33_8 : AC := .reg [⟨(some 16), .mv (.t 6), none⟩,
  ⟨(some 17), .len (.t 16), none⟩,
  ⟨(some 18), .fad 2 (.t 2), none⟩,
  ⟨(some 19), .ld none (.t 18), none⟩,
  ⟨(some 20), .len (.t 19), none⟩,
  ⟨(some 21), .bin .eql (.t 17) (.t 20), none⟩] false
abbrev c33_9 : AC := .reg [⟨(some 22), .build [(.c .nil), (.c .nil), (.c .nil)] [], none⟩,
  ⟨none, .st (some 3) (.t 4) (.t 22), none⟩,
  ⟨(some 5), .mv (.k (.I 7)), none⟩] false
abbrev c33_10 : AC := .seq c33_9 .ret
abbrev c33_11 : AC := .cond (.t 21) c33_10 .skip
abbrev c33_12 : AC := .seq c33_8 c33_11
abbrev c33_13 : AC := .reg [⟨(some 23), .mv (.t 6), none⟩,
  ⟨(some 24), .call 52 [(.t 23)], none⟩,
  ⟨none, .st (some 3) (.t 4) (.t 24), none⟩,
  ⟨(some 5), .mv (.k (.I 0)), none⟩] false
abbrev c33_14 : AC := .seq c33_13 .ret
abbrev c33_15 : AC := .seq c33_12 c33_14
abbrev c33_16 : AC := .seq c33_7 c33_15
abbrev c33_17 : AC := .seq c33_6 c33_16
abbrev c33_18 : AC := .seq c33_1 c33_17
abbrev c33 : AC := c33_18
theorem code33 : fnCode Try.prog 33 = some (c33, [5000004, 5], 25) := by kernel_rfl
/- coinage/coinagelaw14.four -/
abbrev c34_1 : AC := .reg [⟨(some 0), .alloc 25 [(.c .nil), (.c .nil), (.c .nil)], none⟩] false
abbrev c34_2 : AC := .reg [⟨(some 1), .bslice 3 1 [(.k (.I 1)), (.k (.I 3)), (.k (.I 9))], none⟩,
  ⟨(some 2), .bslice 3 1 [(.k (.I 2)), (.k (.I 4)), (.k (.I 9))], none⟩,
  ⟨(some 3), .build [(.I 0), (.I 0), (.I 0)] [(0, 1, (.k (.I 3))), (1, 1, (.k (.I 1))), (2, 1, (.k (.I 4)))], none⟩,
  ⟨(some 4), .build [(.I 0), (.I 0), (.I 0)] [(0, 1, (.k (.I 5))), (1, 1, (.k (.I 3))), (2, 1, (.k (.I 4)))], none⟩,
  ⟨(some 5), .build [(.I 0), (.I 0), (.I 0)] [(0, 1, (.k (.I 7))), (1, 1, (.k (.I 1))), (2, 1, (.k (.I 2)))], none⟩,
  ⟨(some 6), .build [(.I 0), (.I 0), (.I 0)] [(0, 1, (.k (.I 8))), (1, 1, (.k (.I 9))), (2, 1, (.k (.I 9)))], none⟩,
  ⟨(some 7), .bslice 47 3 [(.t 3), (.t 4), (.t 5), (.t 6)], none⟩,
  ⟨(some 8), .build [(.c .nil), (.c .nil), (.c .nil)] [(0, 1, (.t 1)), (1, 1, (.t 2)), (2, 1, (.t 7))], none⟩,
  ⟨none, .st (some 3) (.t 0) (.t 8), none⟩] false
abbrev c34_3 : AC := .seq c34_2 .ret
abbrev c34_4 : AC := .seq c34_1 c34_3
abbrev c34 : AC := c34_4
theorem code34 : fnCode Try.prog 34 = some (c34, [5000000], 9) := by kernel_rfl
/- coinage/component.away -/
abbrev c35_1 : AC := .reg [⟨(some 3), .box 25 (some 3) (.t 0), none⟩,
  ⟨(some 4), .box 27 (some 2) (.t 1), none⟩,
  ⟨(some 5), .box 27 (some 2) (.t 2), none⟩,
  ⟨(some 6), .mv (.k (.c .mn)), none⟩,
  ⟨(some 7), .mv (.k (.I 0)), none⟩] false
abbrev c35_2 : AC := .reg [⟨(some 11), .ld (some 3) (.t 3), none⟩,
  ⟨(some 12), .call 32 [(.t 11)], none⟩,
  ⟨(some 13), .not (.t 12), none⟩] false
abbrev c35_3 : AC := .reg [⟨(some 6), .mv (.k (.c .mn)), none⟩,
  ⟨(some 7), .mv (.k (.I 1)), none⟩] false
abbrev c35_4 : AC := .seq c35_3 .ret
abbrev c35_5 : AC := .cond (.t 13) c35_4 .skip
abbrev c35_6 : AC := .seq c35_2 c35_5
abbrev c35_7 : AC := .reg [⟨(some 14), .ld (some 3) (.t 3), none⟩,
  ⟨(some 15), .ld (some 2) (.t 4), none⟩,
  ⟨(some 16), .call 56 [(.t 14), (.t 15)], none⟩,
  ⟨(some 17), .not (.t 16), none⟩,
  ⟨(some 18), .mv (.t 17), none⟩,
  ⟨(some 19), .ld (some 3) (.t 3), (some (18, false))⟩,
  ⟨(some 20), .ld (some 2) (.t 5), (some (18, false))⟩,
  ⟨(some 21), .call 56 [(.t 19), (.t 20)], (some (18, false))⟩,
  ⟨(some 22), .not (.t 21), (some (18, false))⟩,
  ⟨(some 23), .pick (.t 18) (.k (.B true)) (.t 22), none⟩] false
abbrev c35_8 : AC := .reg [⟨(some 6), .mv (.k (.c .mn)), none⟩,
  ⟨(some 7), .mv (.k (.I 7)), none⟩] false
abbrev c35_9 : AC := .seq c35_8 .ret
abbrev c35_10 : AC := .cond (.t 23) c35_9 .skip
abbrev c35_11 : AC := .seq c35_7 c35_10
abbrev c35_12 : AC := .reg [⟨(some 24), .ld (some 3) (.t 3), none⟩,
  ⟨(some 25), .ld (some 2) (.t 4), none⟩,
  ⟨(some 26), .call 42 [(.t 24), (.t 25)], none⟩,
  ⟨(some 8), .mv (.t 26), none⟩] false
abbrev c35_13 : AC := .reg [⟨(some 28), .mv (.t 8), none⟩,
  ⟨(some 29), .ld (some 2) (.t 5), none⟩,
  ⟨(some 30), .look (.agg [.i64, .i64]) (.inl (.sc (.int .i64 0))) true (.t 28) (.t 29), none⟩,
  ⟨(some 27), .mv (.t 30), none⟩,
  ⟨(some 31), .ext (.t 27) 0, none⟩,
  ⟨(some 32), .ext (.t 27) 1, none⟩,
  ⟨(some 9), .mv (.t 31), none⟩,
  ⟨(some 10), .mv (.t 32), none⟩] false
abbrev c35_14 : AC := .reg [⟨(some 33), .mv (.t 10), none⟩,
  ⟨(some 34), .not (.t 33), none⟩] false
abbrev c35_15 : AC := .reg [⟨(some 6), .mv (.k (.c .mn)), none⟩,
  ⟨(some 7), .mv (.k (.I 7)), none⟩] false
abbrev c35_16 : AC := .seq c35_15 .ret
abbrev c35_17 : AC := .cond (.t 34) c35_16 .skip
abbrev c35_18 : AC := .seq c35_14 c35_17
abbrev c35_19 : AC := .seq c35_13 c35_18
abbrev c35_20 : AC := .reg [⟨(some 35), .mv (.t 8), none⟩,
  ⟨(some 6), .mv (.t 35), none⟩,
  ⟨(some 7), .mv (.k (.I 0)), none⟩] false
abbrev c35_21 : AC := .seq c35_20 .ret
abbrev c35_22 : AC := .seq c35_19 c35_21
abbrev c35_23 : AC := .seq c35_12 c35_22
abbrev c35_24 : AC := .seq c35_11 c35_23
abbrev c35_25 : AC := .seq c35_6 c35_24
abbrev c35_26 : AC := .seq c35_1 c35_25
abbrev c35 : AC := c35_26
theorem code35 : fnCode Try.prog 35 = some (c35, [6, 7], 36) := by kernel_rfl
/- coinage/component.across -/
abbrev c36_1 : AC := .reg [⟨(some 2), .box 47 (some 3) (.t 0), none⟩,
  ⟨(some 3), .box 27 (some 2) (.t 1), none⟩,
  ⟨(some 4), .alloc 27 [(.I 0), (.I 0)], none⟩,
  ⟨(some 5), .mv (.k (.B false)), none⟩] false
abbrev c36_2 : AC := .reg [⟨(some 9), .ld (some 3) (.t 2), none⟩,
  ⟨(some 10), .call 57 [(.t 9)], none⟩,
  ⟨(some 8), .mv (.t 10), none⟩,
  ⟨(some 11), .ext (.t 8) 0, none⟩,
  ⟨(some 12), .ext (.t 8) 1, none⟩,
  ⟨(some 6), .alloc 27 [(.I 0), (.I 0)], none⟩,
  ⟨(some 7), .alloc 27 [(.I 0), (.I 0)], none⟩,
  ⟨none, .st (some 2) (.t 6) (.t 11), none⟩,
  ⟨none, .st (some 2) (.t 7) (.t 12), none⟩] false
abbrev c36_3 : AC := .reg [⟨(some 13), .ld (some 2) (.t 3), none⟩] false
abbrev c36_4 : AC := .reg [⟨(some 15), .ld (some 2) (.t 6), none⟩,
  ⟨(some 16), .eqs false [false, false] (.t 13) (.t 15), none⟩,
  ⟨(some 14), .mv (.t 16), none⟩] false
abbrev c36_5 : AC := .reg [⟨(some 17), .ld (some 2) (.t 7), none⟩,
  ⟨none, .st (some 2) (.t 4) (.t 17), none⟩,
  ⟨(some 5), .mv (.k (.B true)), none⟩] false
abbrev c36_6 : AC := .seq c36_5 .ret
abbrev c36_7 : AC := .reg [⟨(some 19), .ld (some 2) (.t 7), none⟩,
  ⟨(some 20), .eqs false [false, false] (.t 13) (.t 19), none⟩,
  ⟨(some 18), .mv (.t 20), none⟩] false
abbrev c36_8 : AC := .reg [⟨(some 21), .ld (some 2) (.t 6), none⟩,
  ⟨none, .st (some 2) (.t 4) (.t 21), none⟩,
  ⟨(some 5), .mv (.k (.B true)), none⟩] false
abbrev c36_9 : AC := .seq c36_8 .ret
abbrev c36_10 : AC := .cond (.t 18) c36_9 .skip
abbrev c36_11 : AC := .seq c36_7 c36_10
abbrev c36_12 : AC := .cond (.t 14) c36_6 c36_11
abbrev c36_13 : AC := .seq c36_4 c36_12
abbrev c36_14 : AC := .block 0 c36_13
abbrev c36_15 : AC := .seq c36_3 c36_14
abbrev c36_16 : AC := .reg [⟨(some 22), .build [(.I 0), (.I 0)] [], none⟩,
  ⟨none, .st (some 2) (.t 4) (.t 22), none⟩,
  ⟨(some 5), .mv (.k (.B false)), none⟩] false
abbrev c36_17 : AC := .seq c36_16 .ret
abbrev c36_18 : AC := .seq c36_15 c36_17
abbrev c36_19 : AC := .seq c36_2 c36_18
abbrev c36_20 : AC := .seq c36_1 c36_19
abbrev c36 : AC := c36_20
theorem code36 : fnCode Try.prog 36 = some (c36, [4000004, 5], 23) := by kernel_rfl
/- coinage/coinageref13.Dies -/
/- coinage/coinageref14.far -/
/- coinage/coinageref14.ends -/
/- coinage/coinageref14.place -/
/- coinage/linkage.Dies -/
abbrev c41_1 : AC := .reg [⟨(some 1), .box 25 (some 3) (.t 0), none⟩,
  ⟨(some 2), .mv (.k (.c .nil)), none⟩,
  ⟨(some 3), .mv (.k (.I 0)), none⟩] false
abbrev c41_2 : AC := .reg [⟨(some 9), .ld (some 3) (.t 1), none⟩,
  ⟨(some 10), .call 32 [(.t 9)], none⟩,
  ⟨(some 11), .not (.t 10), none⟩] false
abbrev c41_3 : AC := .reg [⟨(some 2), .mv (.k (.c .nil)), none⟩,
  ⟨(some 3), .mv (.k (.I 1)), none⟩] false
abbrev c41_4 : AC := .seq c41_3 .ret
abbrev c41_5 : AC := .cond (.t 11) c41_4 .skip
abbrev c41_6 : AC := .seq c41_2 c41_5
abbrev c41_7 : AC := .reg [⟨(some 4), .mv (.k (.c .nil)), none⟩] false
abbrev c41_8 : AC := .reg [⟨(some 12), .fad 0 (.t 1), none⟩,
  ⟨(some 13), .ld none (.t 12), none⟩,
  ⟨(some 14), .len (.t 13), none⟩,
  ⟨(some 15), .mv (.k (.I 0)), none⟩] false
abbrev c41_9 : AC := .reg [⟨(some 16), .bin .lss (.t 15) (.t 14), none⟩] false
abbrev c41_10 : AC := .cond (.t 16) .skip (.exit 0)
abbrev c41_11 : AC := .reg [⟨(some 17), .iad 1 (.t 13) (.t 15), none⟩,
  ⟨(some 18), .ld none (.t 17), none⟩,
  ⟨(some 6), .mv (.t 18), none⟩] false
abbrev c41_12 : AC := .reg [⟨(some 19), .mv (.t 4), none⟩,
  ⟨(some 20), .mv (.t 6), none⟩,
  ⟨(some 21), .build [(.I 0), (.I 0)] [(0, 1, (.k (.I 0))), (1, 1, (.t 20))], none⟩,
  ⟨(some 22), .bslice 27 2 [(.t 21)], none⟩,
  ⟨(some 23), .app 27 2 16 (.t 19) (.t 22), none⟩,
  ⟨(some 4), .mv (.t 23), none⟩] false
abbrev c41_13 : AC := .seq c41_11 c41_12
abbrev c41_14 : AC := .block 1 c41_13
abbrev c41_15 : AC := .reg [⟨(some 24), .bin .add (.t 15) (.k (.I 1)), none⟩,
  ⟨(some 15), .mv (.t 24), none⟩] false
abbrev c41_16 : AC := .seq c41_14 c41_15
abbrev c41_17 : AC := .seq c41_10 c41_16
abbrev c41_18 : AC := .seq c41_9 c41_17
abbrev c41_19 : AC := .loop c41_18
abbrev c41_20 : AC := .block 0 c41_19
abbrev c41_21 : AC := .seq c41_8 c41_20
abbrev c41_22 : AC := .reg [⟨(some 25), .fad 1 (.t 1), none⟩,
  ⟨(some 26), .ld none (.t 25), none⟩,
  ⟨(some 27), .len (.t 26), none⟩,
  ⟨(some 28), .mv (.k (.I 0)), none⟩] false
abbrev c41_23 : AC := .reg [⟨(some 29), .bin .lss (.t 28) (.t 27), none⟩] false
abbrev c41_24 : AC := .cond (.t 29) .skip (.exit 2)
abbrev c41_25 : AC := .reg [⟨(some 30), .iad 1 (.t 26) (.t 28), none⟩,
  ⟨(some 31), .ld none (.t 30), none⟩,
  ⟨(some 8), .mv (.t 31), none⟩] false
abbrev c41_26 : AC := .reg [⟨(some 32), .mv (.t 4), none⟩,
  ⟨(some 33), .mv (.t 8), none⟩,
  ⟨(some 34), .build [(.I 0), (.I 0)] [(0, 1, (.k (.I 1))), (1, 1, (.t 33))], none⟩,
  ⟨(some 35), .bslice 27 2 [(.t 34)], none⟩,
  ⟨(some 36), .app 27 2 16 (.t 32) (.t 35), none⟩,
  ⟨(some 4), .mv (.t 36), none⟩] false
abbrev c41_27 : AC := .seq c41_25 c41_26
abbrev c41_28 : AC := .block 3 c41_27
abbrev c41_29 : AC := .reg [⟨(some 37), .bin .add (.t 28) (.k (.I 1)), none⟩,
  ⟨(some 28), .mv (.t 37), none⟩] false
abbrev c41_30 : AC := .seq c41_28 c41_29
abbrev c41_31 : AC := .seq c41_24 c41_30
abbrev c41_32 : AC := .seq c41_23 c41_31
abbrev c41_33 : AC := .loop c41_32
abbrev c41_34 : AC := .block 2 c41_33
abbrev c41_35 : AC := .seq c41_22 c41_34
abbrev c41_36 : AC := .reg [⟨(some 38), .mv (.t 4), none⟩,
  ⟨(some 2), .mv (.t 38), none⟩,
  ⟨(some 3), .mv (.k (.I 0)), none⟩] false
abbrev c41_37 : AC := .seq c41_36 .ret
abbrev c41_38 : AC := .seq c41_35 c41_37
abbrev c41_39 : AC := .seq c41_21 c41_38
abbrev c41_40 : AC := .seq c41_7 c41_39
abbrev c41_41 : AC := .seq c41_6 c41_40
abbrev c41_42 : AC := .seq c41_1 c41_41
abbrev c41 : AC := c41_42
theorem code41 : fnCode Try.prog 41 = some (c41, [2, 3], 39) := by kernel_rfl
/- coinage/component.steps -/
abbrev c42_1 : AC := .reg [⟨(some 2), .box 25 (some 3) (.t 0), none⟩,
  ⟨(some 3), .box 27 (some 2) (.t 1), none⟩,
  ⟨(some 4), .mv (.k (.c .mn)), none⟩] false
abbrev c42_2 : AC := .reg [⟨(some 14), .mkmap (.agg [.i64, .i64]), none⟩,
  ⟨(some 15), .ld (some 2) (.t 3), none⟩,
  ⟨none, .mset (.agg [.i64, .i64]) (.t 14) (.t 15) (.k (.I 0)), none⟩,
  ⟨(some 16), .mv (.t 14), none⟩,
  ⟨(some 5), .mv (.t 16), none⟩] false
abbrev c42_3 : AC := .reg [⟨(some 17), .ld (some 2) (.t 3), none⟩,
  ⟨(some 18), .bslice 27 2 [(.t 17)], none⟩,
  ⟨(some 6), .mv (.t 18), none⟩] false
abbrev c42_4 : AC := .reg [⟨(some 19), .mv (.t 6), none⟩,
  ⟨(some 20), .len (.t 19), none⟩,
  ⟨(some 21), .bin .gtr (.t 20) (.k (.I 0)), none⟩] false
abbrev c42_5 : AC := .cond (.t 21) .skip (.exit 0)
abbrev c42_6 : AC := .seq c42_4 c42_5
abbrev c42_7 : AC := .reg [⟨(some 24), .mv (.t 6), none⟩,
  ⟨(some 25), .iad 2 (.t 24) (.k (.I 0)), none⟩,
  ⟨(some 26), .ld (some 2) (.t 25), none⟩,
  ⟨(some 7), .alloc 27 [(.I 0), (.I 0)], none⟩,
  ⟨none, .st (some 2) (.t 7) (.t 26), none⟩] false
abbrev c42_8 : AC := .reg [⟨(some 27), .fad 2 (.t 2), none⟩,
  ⟨(some 28), .ld none (.t 27), none⟩,
  ⟨(some 29), .len (.t 28), none⟩,
  ⟨(some 30), .mv (.k (.I 0)), none⟩] false
abbrev c42_9 : AC := .reg [⟨(some 31), .bin .lss (.t 30) (.t 29), none⟩] false
abbrev c42_10 : AC := .cond (.t 31) .skip (.exit 2)
abbrev c42_11 : AC := .reg [⟨(some 32), .iad 3 (.t 28) (.t 30), none⟩,
  ⟨(some 33), .ld (some 3) (.t 32), none⟩,
  ⟨(some 9), .alloc 47 [(.I 0), (.I 0), (.I 0)], none⟩,
  ⟨none, .st (some 3) (.t 9) (.t 33), none⟩] false
abbrev c42_12 : AC := .reg [⟨(some 35), .ld (some 3) (.t 9), none⟩,
  ⟨(some 36), .ld (some 2) (.t 7), none⟩,
  ⟨(some 37), .call 36 [(.t 35), (.t 36)], none⟩,
  ⟨(some 34), .mv (.t 37), none⟩,
  ⟨(some 38), .ext (.t 34) 0, none⟩,
  ⟨(some 39), .ext (.t 34) 1, none⟩,
  ⟨(some 10), .alloc 27 [(.I 0), (.I 0)], none⟩,
  ⟨none, .st (some 2) (.t 10) (.t 38), none⟩,
  ⟨(some 11), .mv (.t 39), none⟩] false
abbrev c42_13 : AC := .reg [⟨(some 41), .mv (.t 5), none⟩,
  ⟨(some 42), .ld (some 2) (.t 10), none⟩,
  ⟨(some 43), .look (.agg [.i64, .i64]) (.inl (.sc (.int .i64 0))) true (.t 41) (.t 42), none⟩,
  ⟨(some 40), .mv (.t 43), none⟩,
  ⟨(some 44), .ext (.t 40) 0, none⟩,
  ⟨(some 45), .ext (.t 40) 1, none⟩,
  ⟨(some 12), .mv (.t 44), none⟩,
  ⟨(some 13), .mv (.t 45), none⟩] false
abbrev c42_14 : AC := .reg [⟨(some 46), .mv (.t 11), none⟩,
  ⟨(some 47), .mv (.t 46), none⟩,
  ⟨(some 48), .mv (.t 13), (some (47, true))⟩,
  ⟨(some 49), .not (.t 48), (some (47, true))⟩,
  ⟨(some 50), .pick (.t 47) (.t 49) (.k (.B false)), none⟩] false
abbrev c42_15 : AC := .regX (.first ⟨(some 51), .mv (.t 5), none⟩
  (.first ⟨(some 53), .mv (.t 5), none⟩
  (.fork ⟨(some 52), .ld (some 2) (.t 10), none⟩
  (.fork ⟨(some 54), .ld (some 2) (.t 7), none⟩
  (.fork ⟨(some 55), .look (.agg [.i64, .i64]) (.inl (.sc (.int .i64 0))) false (.t 53) (.t 54), none⟩
  (.first ⟨(some 56), .bin .add (.t 55) (.k (.I 1)), none⟩
  (.fork ⟨none, .mset (.agg [.i64, .i64]) (.t 51) (.t 52) (.t 56), none⟩
  .done
  .nope))
  .nope)
  .nope)
  (.fork ⟨(some 54), .ld (some 2) (.t 7), none⟩
  (.fork ⟨(some 52), .ld (some 2) (.t 10), none⟩
  (.fork ⟨(some 55), .look (.agg [.i64, .i64]) (.inl (.sc (.int .i64 0))) false (.t 53) (.t 54), none⟩
  (.first ⟨(some 56), .bin .add (.t 55) (.k (.I 1)), none⟩
  (.fork ⟨none, .mset (.agg [.i64, .i64]) (.t 51) (.t 52) (.t 56), none⟩
  .done
  .nope))
  .nope)
  (.fork ⟨(some 55), .look (.agg [.i64, .i64]) (.inl (.sc (.int .i64 0))) false (.t 53) (.t 54), none⟩
  (.first ⟨(some 56), .bin .add (.t 55) (.k (.I 1)), none⟩
  (.fork ⟨(some 52), .ld (some 2) (.t 10), none⟩
  (.fork ⟨none, .mset (.agg [.i64, .i64]) (.t 51) (.t 52) (.t 56), none⟩
  .done
  .nope)
  .nope))
  .nope))
  .nope))))
abbrev c42_16 : AC := .reg [⟨(some 57), .mv (.t 6), none⟩,
  ⟨(some 58), .ld (some 2) (.t 10), none⟩,
  ⟨(some 59), .bslice 27 2 [(.t 58)], none⟩,
  ⟨(some 60), .app 27 2 16 (.t 57) (.t 59), none⟩,
  ⟨(some 6), .mv (.t 60), none⟩] false
abbrev c42_17 : AC := .seq c42_15 c42_16
abbrev c42_18 : AC := .cond (.t 50) c42_17 .skip
abbrev c42_19 : AC := .seq c42_14 c42_18
abbrev c42_20 : AC := .seq c42_13 c42_19
abbrev c42_21 : AC := .seq c42_12 c42_20
abbrev c42_22 : AC := .seq c42_11 c42_21
abbrev c42_23 : AC := .block 3 c42_22
abbrev c42_24 : AC := .reg [⟨(some 61), .bin .add (.t 30) (.k (.I 1)), none⟩,
  ⟨(some 30), .mv (.t 61), none⟩] false
abbrev c42_25 : AC := .seq c42_23 c42_24
abbrev c42_26 : AC := .seq c42_10 c42_25
abbrev c42_27 : AC := .seq c42_9 c42_26
abbrev c42_28 : AC := .loop c42_27
abbrev c42_29 : AC := .block 2 c42_28
abbrev c42_30 : AC := .seq c42_8 c42_29
abbrev c42_31 : AC := .seq c42_7 c42_30
abbrev c42_32 : AC := .block 1 c42_31
abbrev c42_33 : AC := .reg [⟨(some 22), .mv (.t 6), none⟩,
  ⟨(some 23), .slc 2 (.t 22) (some (.k (.I 1))) none, none⟩,
  ⟨(some 6), .mv (.t 23), none⟩] false
abbrev c42_34 : AC := .seq c42_32 c42_33
abbrev c42_35 : AC := .seq c42_6 c42_34
abbrev c42_36 : AC := .loop c42_35
abbrev c42_37 : AC := .block 0 c42_36
abbrev c42_38 : AC := .seq c42_3 c42_37
abbrev c42_39 : AC := .reg [⟨(some 62), .mv (.t 5), none⟩,
  ⟨(some 4), .mv (.t 62), none⟩] false
abbrev c42_40 : AC := .seq c42_39 .ret
abbrev c42_41 : AC := .seq c42_38 c42_40
abbrev c42_42 : AC := .seq c42_2 c42_41
abbrev c42_43 : AC := .seq c42_1 c42_42
abbrev c42 : AC := c42_43
theorem code42 : fnCode Try.prog 42 = some (c42, [4], 63) := by kernel_rfl
/- coinage/coinageref14.Number -/
/- coinage/coinagebase.Dies -/
/- coinage/coinagebase.Graph -/
/- coinage/coinageref13.with -/
/- coinage/coinageref13.insert -/
def c47_11L : List AP := [⟨(some 22), .bslice 47 3 [], none⟩,
  ⟨(some 23), .mv (.t 0), none⟩,
  ⟨(some 24), .mv (.t 5), none⟩,
  ⟨(some 25), .slc 3 (.t 23) none (some (.t 24)), none⟩,
  ⟨(some 26), .app 47 3 24 (.t 22) (.t 25), none⟩,
  ⟨(some 27), .ld (some 3) (.t 3), none⟩,
  ⟨(some 28), .bslice 47 3 [(.t 27)], none⟩,
  ⟨(some 29), .app 47 3 24 (.t 26) (.t 28), none⟩,
  ⟨(some 30), .mv (.t 0), none⟩,
  ⟨(some 31), .mv (.t 5), none⟩,
  ⟨(some 32), .slc 3 (.t 30) (some (.t 31)) none, none⟩,
  ⟨(some 33), .app 47 3 24 (.t 29) (.t 32), none⟩,
  ⟨(some 4), .mv (.t 33), none⟩]
/- slices.Contains[[]int,int] -/
/- coinage/coinagebase.Links -/
/- coinage/linkage.numbers -/
abbrev c50_1 : AC := .reg [⟨(some 2), .mv (.k (.B false)), none⟩] false
abbrev c50_2 : AC := .reg [⟨(some 5), .mv (.t 0), none⟩,
  ⟨(some 6), .len (.t 5), none⟩,
  ⟨(some 7), .mv (.k (.I 0)), none⟩] false
abbrev c50_3 : AC := .reg [⟨(some 8), .bin .lss (.t 7) (.t 6), none⟩] false
abbrev c50_4 : AC := .cond (.t 8) .skip (.exit 0)
abbrev c50_5 : AC := .reg [⟨(some 9), .mv (.t 7), none⟩,
  ⟨(some 10), .iad 1 (.t 5) (.t 7), none⟩,
  ⟨(some 11), .ld none (.t 10), none⟩,
  ⟨(some 3), .mv (.t 9), none⟩,
  ⟨(some 4), .mv (.t 11), none⟩] false
abbrev c50_6 : AC := .reg [⟨(some 12), .mv (.t 4), none⟩,
  ⟨(some 13), .bin .lss (.t 12) (.k (.I 1)), none⟩,
  ⟨(some 14), .mv (.t 13), none⟩,
  ⟨(some 15), .mv (.t 4), (some (14, false))⟩,
  ⟨(some 16), .bin .gtr (.t 15) (.k (.I 999)), (some (14, false))⟩,
  ⟨(some 17), .pick (.t 14) (.k (.B true)) (.t 16), none⟩,
  ⟨(some 18), .mv (.t 17), none⟩,
  ⟨(some 19), .mv (.t 3), (some (18, false))⟩,
  ⟨(some 20), .bin .gtr (.t 19) (.k (.I 0)), (some (18, false))⟩,
  ⟨(some 21), .mv (.t 20), (some (18, false))⟩,
  ⟨(some 22), .mv (.t 4), (some (21, true))⟩,
  ⟨(some 23), .mv (.t 0), (some (21, true))⟩,
  ⟨(some 24), .mv (.t 3), (some (21, true))⟩,
  ⟨(some 25), .bin .sub (.t 24) (.k (.I 1)), (some (21, true))⟩,
  ⟨(some 26), .iad 1 (.t 23) (.t 25), (some (21, true))⟩,
  ⟨(some 27), .ld none (.t 26), (some (21, true))⟩,
  ⟨(some 28), .bin .leq (.t 22) (.t 27), (some (21, true))⟩,
  ⟨(some 29), .pick (.t 21) (.t 28) (.k (.B false)), (some (18, false))⟩,
  ⟨(some 30), .pick (.t 18) (.k (.B true)) (.t 29), none⟩] false
abbrev c50_7 : AC := .reg [⟨(some 2), .mv (.k (.B false)), none⟩] false
abbrev c50_8 : AC := .seq c50_7 .ret
abbrev c50_9 : AC := .cond (.t 30) c50_8 .skip
abbrev c50_10 : AC := .seq c50_6 c50_9
abbrev c50_11 : AC := .seq c50_5 c50_10
abbrev c50_12 : AC := .block 1 c50_11
abbrev c50_13 : AC := .reg [⟨(some 31), .bin .add (.t 7) (.k (.I 1)), none⟩,
  ⟨(some 7), .mv (.t 31), none⟩] false
abbrev c50_14 : AC := .seq c50_12 c50_13
abbrev c50_15 : AC := .seq c50_4 c50_14
abbrev c50_16 : AC := .seq c50_3 c50_15
abbrev c50_17 : AC := .loop c50_16
abbrev c50_18 : AC := .block 0 c50_17
abbrev c50_19 : AC := .seq c50_2 c50_18
abbrev c50_20 : AC := .reg [⟨(some 32), .mv (.t 0), none⟩,
  ⟨(some 33), .len (.t 32), none⟩,
  ⟨(some 34), .bin .leq (.t 33) (.k (.I 32)), none⟩,
  ⟨(some 2), .mv (.t 34), none⟩] false
abbrev c50_21 : AC := .seq c50_20 .ret
abbrev c50_22 : AC := .seq c50_19 c50_21
abbrev c50_23 : AC := .seq c50_1 c50_22
abbrev c50 : AC := c50_23
theorem code50 : fnCode Try.prog 50 = some (c50, [2], 35) := by kernel_rfl
/- coinage/linkage.has -/
abbrev c51_1 : AC := .reg [⟨(some 4), .mv (.k (.B false)), none⟩] false
abbrev c51_2 : AC := .reg [⟨(some 8), .mv (.t 0), none⟩,
  ⟨(some 9), .mv (.t 1), none⟩,
  ⟨(some 10), .call 62 [(.t 8), (.t 9)], none⟩,
  ⟨(some 7), .mv (.t 10), none⟩,
  ⟨(some 11), .ext (.t 7) 0, none⟩,
  ⟨(some 12), .ext (.t 7) 1, none⟩,
  ⟨(some 5), .mv (.t 11), none⟩,
  ⟨(some 6), .mv (.t 12), none⟩] false
abbrev c51_3 : AC := .reg [⟨(some 13), .mv (.t 6), none⟩,
  ⟨(some 4), .mv (.t 13), none⟩] false
abbrev c51_4 : AC := .seq c51_3 .ret
abbrev c51_5 : AC := .seq c51_2 c51_4
abbrev c51_6 : AC := .seq c51_1 c51_5
abbrev c51 : AC := c51_6
theorem code51 : fnCode Try.prog 51 = some (c51, [4], 14) := by kernel_rfl
/- coinage/linkage.with -/
abbrev c52_1 : AC := .reg [⟨(some 2), .alloc 25 [(.c .nil), (.c .nil), (.c .nil)], none⟩] false
abbrev c52_2 : AC := .reg [⟨(some 6), .mv (.t 0), none⟩,
  ⟨(some 7), .build [(.c .nil), (.c .nil), (.c .nil)] [(2, 1, (.t 6))], none⟩,
  ⟨(some 3), .alloc 25 [(.c .nil), (.c .nil), (.c .nil)], none⟩,
  ⟨none, .st (some 3) (.t 3) (.t 7), none⟩] false
abbrev c52_3 : AC := .reg [⟨(some 8), .mv (.t 0), none⟩,
  ⟨(some 9), .len (.t 8), none⟩,
  ⟨(some 10), .mv (.k (.I 0)), none⟩] false
abbrev c52_4 : AC := .reg [⟨(some 11), .bin .lss (.t 10) (.t 9), none⟩] false
abbrev c52_5 : AC := .cond (.t 11) .skip (.exit 0)
abbrev c52_6 : AC := .reg [⟨(some 12), .iad 3 (.t 8) (.t 10), none⟩,
  ⟨(some 13), .ld (some 3) (.t 12), none⟩,
  ⟨(some 5), .alloc 47 [(.I 0), (.I 0), (.I 0)], none⟩,
  ⟨none, .st (some 3) (.t 5) (.t 13), none⟩] false
def c52_7L : List AP := [⟨(some 14), .fad 0 (.t 3), none⟩,
  ⟨(some 15), .ld none (.t 14), none⟩,
  ⟨(some 16), .fad 1 (.t 5), none⟩,
  ⟨(some 17), .ld none (.t 16), none⟩,
  ⟨(some 18), .bslice 3 1 [(.t 17)], none⟩,
  ⟨(some 19), .app 3 1 8 (.t 15) (.t 18), none⟩,
  ⟨(some 20), .fad 1 (.t 3), none⟩,
  ⟨(some 21), .ld none (.t 20), none⟩,
  ⟨(some 22), .fad 2 (.t 5), none⟩,
  ⟨(some 23), .ld none (.t 22), none⟩,
  ⟨(some 24), .bslice 3 1 [(.t 23)], none⟩,
  ⟨(some 25), .app 3 1 8 (.t 21) (.t 24), none⟩,
  ⟨(some 26), .fad 0 (.t 3), none⟩,
  ⟨none, .st none (.t 26) (.t 19), none⟩,
  ⟨(some 27), .fad 1 (.t 3), none⟩,
  ⟨none, .st none (.t 27) (.t 25), none⟩]
abbrev c52_7 : AC := .regG c52_7L [0, 1, 0, 4, 8, 18, 0, 64, 0, 256, 512, 1184, 255, 6399, 16383, 32767] [0, 1, 0, 4, 8, 18, 0, 64, 0, 256, 512, 1152, 0, 4128, 0, 18432]
abbrev c52_8 : AC := .seq c52_6 c52_7
abbrev c52_9 : AC := .block 1 c52_8
abbrev c52_10 : AC := .reg [⟨(some 28), .bin .add (.t 10) (.k (.I 1)), none⟩,
  ⟨(some 10), .mv (.t 28), none⟩] false
abbrev c52_11 : AC := .seq c52_9 c52_10
abbrev c52_12 : AC := .seq c52_5 c52_11
abbrev c52_13 : AC := .seq c52_4 c52_12
abbrev c52_14 : AC := .loop c52_13
abbrev c52_15 : AC := .block 0 c52_14
abbrev c52_16 : AC := .seq c52_3 c52_15
abbrev c52_17 : AC := .reg [⟨(some 29), .fad 0 (.t 3), none⟩,
  ⟨(some 30), .ld none (.t 29), none⟩,
  ⟨(some 31), .call 63 [(.t 30)], none⟩] false
abbrev c52_18 : AC := .reg [⟨(some 32), .fad 1 (.t 3), none⟩,
  ⟨(some 33), .ld none (.t 32), none⟩,
  ⟨(some 34), .call 63 [(.t 33)], none⟩] false
abbrev c52_19 : AC := .regX (.first ⟨(some 35), .fad 0 (.t 3), none⟩
  (.first ⟨(some 38), .fad 1 (.t 3), none⟩
  (.fork ⟨(some 36), .ld none (.t 35), none⟩
  (.fork ⟨(some 37), .call 64 [(.t 36)], none⟩
  (.fork ⟨(some 39), .ld none (.t 38), none⟩
  (.first ⟨(some 41), .fad 0 (.t 3), none⟩
  (.fork ⟨(some 40), .call 64 [(.t 39)], none⟩
  (.fork ⟨none, .st none (.t 41) (.t 37), none⟩
  (.first ⟨(some 42), .fad 1 (.t 3), none⟩
  (.fork ⟨none, .st none (.t 42) (.t 40), none⟩
  .done
  .nope))
  .nope)
  .nope))
  .nope)
  (.fork ⟨(some 39), .ld none (.t 38), none⟩
  (.fork ⟨(some 37), .call 64 [(.t 36)], none⟩
  (.first ⟨(some 41), .fad 0 (.t 3), none⟩
  (.fork ⟨(some 40), .call 64 [(.t 39)], none⟩
  (.fork ⟨none, .st none (.t 41) (.t 37), none⟩
  (.first ⟨(some 42), .fad 1 (.t 3), none⟩
  (.fork ⟨none, .st none (.t 42) (.t 40), none⟩
  .done
  .nope))
  .nope)
  .nope))
  .nope)
  .nope))
  (.fork ⟨(some 39), .ld none (.t 38), none⟩
  (.fork ⟨(some 36), .ld none (.t 35), none⟩
  (.fork ⟨(some 37), .call 64 [(.t 36)], none⟩
  (.first ⟨(some 41), .fad 0 (.t 3), none⟩
  (.fork ⟨(some 40), .call 64 [(.t 39)], none⟩
  (.fork ⟨none, .st none (.t 41) (.t 37), none⟩
  (.first ⟨(some 42), .fad 1 (.t 3), none⟩
  (.fork ⟨none, .st none (.t 42) (.t 40), none⟩
  .done
  .nope))
  .nope)
  .nope))
  .nope)
  .nope)
  .nope))))
abbrev c52_20 : AC := .reg [⟨(some 43), .ld (some 3) (.t 3), none⟩,
  ⟨none, .st (some 3) (.t 2) (.t 43), none⟩] false
abbrev c52_21 : AC := .seq c52_20 .ret
abbrev c52_22 : AC := .seq c52_19 c52_21
abbrev c52_23 : AC := .seq c52_18 c52_22
abbrev c52_24 : AC := .seq c52_17 c52_23
abbrev c52_25 : AC := .seq c52_16 c52_24
abbrev c52_26 : AC := .seq c52_2 c52_25
abbrev c52_27 : AC := .seq c52_1 c52_26
abbrev c52 : AC := c52_27
theorem code52 : fnCode Try.prog 52 = some (c52, [5000002], 44) := by kernel_rfl
/- slices.Clone[[]coinage/api.Link,coinage/api.Link] -/
abbrev c54_1 : AC := .reg [⟨(some 2), .mv (.k (.c .nil)), none⟩] false
abbrev c54_2 : AC := .reg [⟨(some 3), .mv (.t 0), none⟩,
  ⟨(some 4), .isnil false (.t 3), none⟩] false
abbrev c54_3 : AC := .reg [⟨(some 2), .mv (.k (.c .nil)), none⟩] false
abbrev c54_4 : AC := .seq c54_3 .ret
abbrev c54_5 : AC := .cond (.t 4) c54_4 .skip
abbrev c54_6 : AC := .seq c54_2 c54_5
abbrev c54_7 : AC := .reg [⟨(some 5), .bslice 47 3 [], none⟩,
  ⟨(some 6), .mv (.t 0), none⟩,
  ⟨(some 7), .app 47 3 24 (.t 5) (.t 6), none⟩,
  ⟨(some 2), .mv (.t 7), none⟩] false
abbrev c54_8 : AC := .seq c54_7 .ret
abbrev c54_9 : AC := .seq c54_6 c54_8
abbrev c54_10 : AC := .seq c54_1 c54_9
abbrev c54 : AC := c54_10
theorem code54 : fnCode Try.prog 54 = some (c54, [2], 8) := by kernel_rfl
/- coinage/linkage.Without$1 -/
abbrev c55_1 : AC := .reg [⟨(some 2), .box 47 (some 3) (.t 0), none⟩,
  ⟨(some 3), .mv (.k (.B false)), none⟩] false
abbrev c55_2 : AC := .reg [⟨(some 4), .fad 0 (.t 2), none⟩,
  ⟨(some 5), .ld none (.t 4), none⟩,
  ⟨(some 6), .ld none (.t 1), none⟩,
  ⟨(some 7), .bin .eql (.t 5) (.t 6), none⟩,
  ⟨(some 3), .mv (.t 7), none⟩] false
abbrev c55_3 : AC := .seq c55_2 .ret
abbrev c55_4 : AC := .seq c55_1 c55_3
abbrev c55 : AC := c55_4
theorem code55 : fnCode Try.prog 55 = some (c55, [3], 8) := by kernel_rfl
/- coinage/component.in -/
abbrev c56_1 : AC := .reg [⟨(some 2), .box 25 (some 3) (.t 0), none⟩,
  ⟨(some 3), .box 27 (some 2) (.t 1), none⟩,
  ⟨(some 4), .mv (.k (.B false)), none⟩] false
abbrev c56_2 : AC := .reg [⟨(some 8), .ld (some 3) (.t 2), none⟩,
  ⟨(some 9), .call 41 [(.t 8)], none⟩,
  ⟨(some 7), .mv (.t 9), none⟩,
  ⟨(some 10), .ext (.t 7) 0, none⟩,
  ⟨(some 11), .ext (.t 7) 1, none⟩,
  ⟨(some 5), .mv (.t 10), none⟩,
  ⟨(some 6), .mv (.t 11), none⟩] false
abbrev c56_3 : AC := .reg [⟨(some 12), .mv (.t 5), none⟩,
  ⟨(some 13), .ld (some 2) (.t 3), none⟩,
  ⟨(some 14), .call 66 [(.t 12), (.t 13)], none⟩,
  ⟨(some 4), .mv (.t 14), none⟩] false
abbrev c56_4 : AC := .seq c56_3 .ret
abbrev c56_5 : AC := .seq c56_2 c56_4
abbrev c56_6 : AC := .seq c56_1 c56_5
abbrev c56 : AC := c56_6
theorem code56 : fnCode Try.prog 56 = some (c56, [4], 15) := by kernel_rfl
/- coinage/component.ends -/
abbrev c57_1 : AC := .reg [⟨(some 1), .box 47 (some 3) (.t 0), none⟩,
  ⟨(some 2), .alloc 27 [(.I 0), (.I 0)], none⟩,
  ⟨(some 3), .alloc 27 [(.I 0), (.I 0)], none⟩] false
abbrev c57_2 : AC := .regX (.first ⟨(some 4), .fad 1 (.t 1), none⟩
  (.first ⟨(some 7), .fad 2 (.t 1), none⟩
  (.fork ⟨(some 5), .ld none (.t 4), none⟩
  (.first ⟨(some 6), .build [(.I 0), (.I 0)] [(0, 1, (.k (.I 0))), (1, 1, (.t 5))], none⟩
  (.fork ⟨(some 8), .ld none (.t 7), none⟩
  (.first ⟨(some 9), .build [(.I 0), (.I 0)] [(0, 1, (.k (.I 1))), (1, 1, (.t 8))], none⟩
  (.fork ⟨none, .st (some 2) (.t 2) (.t 6), none⟩
  (.fork ⟨none, .st (some 2) (.t 3) (.t 9), none⟩
  .done
  .nope)
  .nope))
  (.fork ⟨none, .st (some 2) (.t 2) (.t 6), none⟩
  (.fork ⟨(some 8), .ld none (.t 7), none⟩
  (.first ⟨(some 9), .build [(.I 0), (.I 0)] [(0, 1, (.k (.I 1))), (1, 1, (.t 8))], none⟩
  (.fork ⟨none, .st (some 2) (.t 3) (.t 9), none⟩
  .done
  .nope))
  .nope)
  .nope)))
  (.fork ⟨(some 8), .ld none (.t 7), none⟩
  (.first ⟨(some 9), .build [(.I 0), (.I 0)] [(0, 1, (.k (.I 1))), (1, 1, (.t 8))], none⟩
  (.fork ⟨(some 5), .ld none (.t 4), none⟩
  (.first ⟨(some 6), .build [(.I 0), (.I 0)] [(0, 1, (.k (.I 0))), (1, 1, (.t 5))], none⟩
  (.fork ⟨none, .st (some 2) (.t 2) (.t 6), none⟩
  (.fork ⟨none, .st (some 2) (.t 3) (.t 9), none⟩
  .done
  .nope)
  .nope))
  .nope))
  .nope))))
abbrev c57_3 : AC := .seq c57_2 .ret
abbrev c57_4 : AC := .seq c57_1 c57_3
abbrev c57 : AC := c57_4
theorem code57 : fnCode Try.prog 57 = some (c57, [4000002, 4000003], 10) := by kernel_rfl
/- coinage/coinagebase.Ascending -/
/- coinage/coinagebase.Id -/
/- coinage/coinagebase.Has -/
/- slices.Index[[]int,int] -/
/- slices.BinarySearch[[]int,int] -/
abbrev c62_1 : AC := .reg [⟨(some 4), .mv (.k (.I 0)), none⟩,
  ⟨(some 5), .mv (.k (.B false)), none⟩] false
abbrev c62_2 : AC := .reg [⟨(some 10), .mv (.t 0), none⟩,
  ⟨(some 11), .len (.t 10), none⟩,
  ⟨(some 6), .mv (.t 11), none⟩] false
abbrev c62_3 : AC := .reg [⟨(some 12), .mv (.t 6), none⟩,
  ⟨(some 7), .mv (.k (.I 0)), none⟩,
  ⟨(some 8), .mv (.t 12), none⟩] false
abbrev c62_4 : AC := .reg [⟨(some 13), .mv (.t 7), none⟩,
  ⟨(some 14), .mv (.t 8), none⟩,
  ⟨(some 15), .bin .lss (.t 13) (.t 14), none⟩] false
abbrev c62_5 : AC := .cond (.t 15) .skip (.exit 0)
abbrev c62_6 : AC := .seq c62_4 c62_5
abbrev c62_7 : AC := .reg [⟨(some 16), .mv (.t 7), none⟩,
  ⟨(some 17), .mv (.t 8), none⟩,
  ⟨(some 18), .bin .add (.t 16) (.t 17), none⟩,
  ⟨(some 19), .conv .u64 (.t 18), none⟩,
  ⟨(some 20), .bin .shr (.t 19) (.k (.c (.sc (.int .u64 1)))), none⟩,
  ⟨(some 21), .conv .i64 (.t 20), none⟩,
  ⟨(some 9), .mv (.t 21), none⟩] false
abbrev c62_8 : AC := .reg [⟨(some 22), .mv (.t 0), none⟩,
  ⟨(some 23), .mv (.t 9), none⟩,
  ⟨(some 24), .iad 1 (.t 22) (.t 23), none⟩,
  ⟨(some 25), .ld none (.t 24), none⟩,
  ⟨(some 26), .mv (.t 1), none⟩,
  ⟨(some 27), .call 68 [(.t 25), (.t 26)], none⟩] false
abbrev c62_9 : AC := .reg [⟨(some 28), .mv (.t 9), none⟩,
  ⟨(some 29), .bin .add (.t 28) (.k (.I 1)), none⟩,
  ⟨(some 7), .mv (.t 29), none⟩] false
abbrev c62_10 : AC := .reg [⟨(some 30), .mv (.t 9), none⟩,
  ⟨(some 8), .mv (.t 30), none⟩] false
abbrev c62_11 : AC := .cond (.t 27) c62_9 c62_10
abbrev c62_12 : AC := .seq c62_8 c62_11
abbrev c62_13 : AC := .seq c62_7 c62_12
abbrev c62_14 : AC := .block 1 c62_13
abbrev c62_15 : AC := .seq c62_6 c62_14
abbrev c62_16 : AC := .loop c62_15
abbrev c62_17 : AC := .block 0 c62_16
abbrev c62_18 : AC := .reg [⟨(some 31), .mv (.t 7), none⟩,
  ⟨(some 32), .mv (.t 7), none⟩,
  ⟨(some 33), .mv (.t 6), none⟩,
  ⟨(some 34), .bin .lss (.t 32) (.t 33), none⟩,
  ⟨(some 35), .mv (.t 34), none⟩,
  ⟨(some 36), .mv (.t 0), (some (35, true))⟩,
  ⟨(some 37), .mv (.t 7), (some (35, true))⟩,
  ⟨(some 38), .iad 1 (.t 36) (.t 37), (some (35, true))⟩,
  ⟨(some 39), .ld none (.t 38), (some (35, true))⟩,
  ⟨(some 40), .mv (.t 1), (some (35, true))⟩,
  ⟨(some 41), .bin .eql (.t 39) (.t 40), (some (35, true))⟩,
  ⟨(some 42), .mv (.t 41), (some (35, true))⟩,
  ⟨(some 43), .mv (.t 0), (some (42, false))⟩,
  ⟨(some 44), .mv (.t 7), (some (42, false))⟩,
  ⟨(some 45), .iad 1 (.t 43) (.t 44), (some (42, false))⟩,
  ⟨(some 46), .ld none (.t 45), (some (42, false))⟩,
  ⟨(some 47), .call 69 [(.t 46)], (some (42, false))⟩,
  ⟨(some 48), .mv (.t 47), (some (42, false))⟩,
  ⟨(some 49), .mv (.t 1), (some (48, true))⟩,
  ⟨(some 50), .call 69 [(.t 49)], (some (48, true))⟩,
  ⟨(some 51), .pick (.t 48) (.t 50) (.k (.B false)), (some (42, false))⟩,
  ⟨(some 52), .pick (.t 42) (.k (.B true)) (.t 51), (some (35, true))⟩,
  ⟨(some 53), .pick (.t 35) (.t 52) (.k (.B false)), none⟩,
  ⟨(some 4), .mv (.t 31), none⟩,
  ⟨(some 5), .mv (.t 53), none⟩] false
abbrev c62_19 : AC := .seq c62_18 .ret
abbrev c62_20 : AC := .seq c62_17 c62_19
abbrev c62_21 : AC := .seq c62_3 c62_20
abbrev c62_22 : AC := .seq c62_2 c62_21
abbrev c62_23 : AC := .seq c62_1 c62_22
abbrev c62 : AC := c62_23
theorem code62 : fnCode Try.prog 62 = some (c62, [4, 5], 54) := by kernel_rfl
/- slices.IndexFunc[[]coinage/api.Link,coinage/api.Link] -/
abbrev c65_1 : AC := .reg [⟨(some 4), .mv (.k (.I 0)), none⟩] false
abbrev c65_2 : AC := .reg [⟨(some 6), .mv (.t 0), none⟩,
  ⟨(some 7), .len (.t 6), none⟩,
  ⟨(some 8), .mv (.k (.I 0)), none⟩] false
abbrev c65_3 : AC := .reg [⟨(some 9), .bin .lss (.t 8) (.t 7), none⟩] false
abbrev c65_4 : AC := .cond (.t 9) .skip (.exit 0)
abbrev c65_5 : AC := .reg [⟨(some 10), .mv (.t 8), none⟩,
  ⟨(some 5), .mv (.t 10), none⟩] false
abbrev c65_6 : AC := .reg [⟨(some 11), .mv (.t 1), none⟩,
  ⟨(some 12), .mv (.t 0), none⟩,
  ⟨(some 13), .mv (.t 5), none⟩,
  ⟨(some 14), .iad 3 (.t 12) (.t 13), none⟩,
  ⟨(some 15), .ld (some 3) (.t 14), none⟩,
  ⟨(some 16), .callv (.t 11) [(.t 15)], none⟩] false
abbrev c65_7 : AC := .reg [⟨(some 17), .mv (.t 5), none⟩,
  ⟨(some 4), .mv (.t 17), none⟩] false
abbrev c65_8 : AC := .seq c65_7 .ret
abbrev c65_9 : AC := .cond (.t 16) c65_8 .skip
abbrev c65_10 : AC := .seq c65_6 c65_9
abbrev c65_11 : AC := .seq c65_5 c65_10
abbrev c65_12 : AC := .block 1 c65_11
abbrev c65_13 : AC := .reg [⟨(some 18), .bin .add (.t 8) (.k (.I 1)), none⟩,
  ⟨(some 8), .mv (.t 18), none⟩] false
abbrev c65_14 : AC := .seq c65_12 c65_13
abbrev c65_15 : AC := .seq c65_4 c65_14
abbrev c65_16 : AC := .seq c65_3 c65_15
abbrev c65_17 : AC := .loop c65_16
abbrev c65_18 : AC := .block 0 c65_17
abbrev c65_19 : AC := .seq c65_2 c65_18
abbrev c65_20 : AC := .reg [⟨(some 4), .mv (.k (.I (-1))), none⟩] false
abbrev c65_21 : AC := .seq c65_20 .ret
abbrev c65_22 : AC := .seq c65_19 c65_21
abbrev c65_23 : AC := .seq c65_1 c65_22
abbrev c65 : AC := c65_23
theorem code65 : fnCode Try.prog 65 = some (c65, [4], 19) := by kernel_rfl
/- slices.Contains[[]coinage/api.Die,coinage/api.Die] -/
abbrev c66_1 : AC := .reg [⟨(some 3), .box 27 (some 2) (.t 1), none⟩,
  ⟨(some 4), .mv (.k (.B false)), none⟩] false
abbrev c66_2 : AC := .reg [⟨(some 5), .mv (.t 0), none⟩,
  ⟨(some 6), .ld (some 2) (.t 3), none⟩,
  ⟨(some 7), .call 72 [(.t 5), (.t 6)], none⟩,
  ⟨(some 8), .bin .geq (.t 7) (.k (.I 0)), none⟩,
  ⟨(some 4), .mv (.t 8), none⟩] false
abbrev c66_3 : AC := .seq c66_2 .ret
abbrev c66_4 : AC := .seq c66_1 c66_3
abbrev c66 : AC := c66_4
theorem code66 : fnCode Try.prog 66 = some (c66, [4], 9) := by kernel_rfl
/- coinage/coinagebase.In -/
/- cmp.Less[int] -/
abbrev c68_1 : AC := .reg [⟨(some 4), .mv (.k (.B false)), none⟩] false
abbrev c68_2 : AC := .reg [⟨(some 5), .mv (.t 0), none⟩,
  ⟨(some 6), .call 73 [(.t 5)], none⟩,
  ⟨(some 7), .mv (.t 6), none⟩,
  ⟨(some 8), .mv (.t 1), (some (7, true))⟩,
  ⟨(some 9), .call 73 [(.t 8)], (some (7, true))⟩,
  ⟨(some 10), .not (.t 9), (some (7, true))⟩,
  ⟨(some 11), .pick (.t 7) (.t 10) (.k (.B false)), none⟩,
  ⟨(some 12), .mv (.t 11), none⟩,
  ⟨(some 13), .mv (.t 0), (some (12, false))⟩,
  ⟨(some 14), .mv (.t 1), (some (12, false))⟩,
  ⟨(some 15), .bin .lss (.t 13) (.t 14), (some (12, false))⟩,
  ⟨(some 16), .pick (.t 12) (.k (.B true)) (.t 15), none⟩,
  ⟨(some 4), .mv (.t 16), none⟩] false
abbrev c68_3 : AC := .seq c68_2 .ret
abbrev c68_4 : AC := .seq c68_1 c68_3
abbrev c68 : AC := c68_4
theorem code68 : fnCode Try.prog 68 = some (c68, [4], 17) := by kernel_rfl
/- slices.isNaN[int] -/
abbrev c69_1 : AC := .reg [⟨(some 2), .mv (.k (.B false)), none⟩] false
abbrev c69_2 : AC := .reg [⟨(some 3), .mv (.t 0), none⟩,
  ⟨(some 4), .mv (.t 0), none⟩,
  ⟨(some 5), .bin .neq (.t 3) (.t 4), none⟩,
  ⟨(some 2), .mv (.t 5), none⟩] false
abbrev c69_3 : AC := .seq c69_2 .ret
abbrev c69_4 : AC := .seq c69_1 c69_3
abbrev c69 : AC := c69_4
theorem code69 : fnCode Try.prog 69 = some (c69, [2], 6) := by kernel_rfl
/- slices.Index[[]coinage/api.Die,coinage/api.Die] -/
abbrev c72_1 : AC := .reg [⟨(some 3), .box 27 (some 2) (.t 1), none⟩,
  ⟨(some 4), .mv (.k (.I 0)), none⟩] false
abbrev c72_2 : AC := .reg [⟨(some 6), .mv (.t 0), none⟩,
  ⟨(some 7), .len (.t 6), none⟩,
  ⟨(some 8), .mv (.k (.I 0)), none⟩] false
abbrev c72_3 : AC := .reg [⟨(some 9), .bin .lss (.t 8) (.t 7), none⟩] false
abbrev c72_4 : AC := .cond (.t 9) .skip (.exit 0)
abbrev c72_5 : AC := .reg [⟨(some 10), .mv (.t 8), none⟩,
  ⟨(some 5), .mv (.t 10), none⟩] false
abbrev c72_6 : AC := .regD [(⟨(some 11), .ld (some 2) (.t 3), none⟩, [3]),
  (⟨(some 12), .mv (.t 0), none⟩, [0]),
  (⟨(some 13), .mv (.t 5), none⟩, [5]),
  (⟨(some 14), .iad 2 (.t 12) (.t 13), none⟩, [12, 13]),
  (⟨(some 15), .ld (some 2) (.t 14), none⟩, [14]),
  (⟨(some 16), .eqs false [false, false] (.t 11) (.t 15), none⟩, [11, 15])]
abbrev c72_7 : AC := .reg [⟨(some 17), .mv (.t 5), none⟩,
  ⟨(some 4), .mv (.t 17), none⟩] false
abbrev c72_8 : AC := .seq c72_7 .ret
abbrev c72_9 : AC := .cond (.t 16) c72_8 .skip
abbrev c72_10 : AC := .seq c72_6 c72_9
abbrev c72_11 : AC := .seq c72_5 c72_10
abbrev c72_12 : AC := .block 1 c72_11
abbrev c72_13 : AC := .reg [⟨(some 18), .bin .add (.t 8) (.k (.I 1)), none⟩,
  ⟨(some 8), .mv (.t 18), none⟩] false
abbrev c72_14 : AC := .seq c72_12 c72_13
abbrev c72_15 : AC := .seq c72_4 c72_14
abbrev c72_16 : AC := .seq c72_3 c72_15
abbrev c72_17 : AC := .loop c72_16
abbrev c72_18 : AC := .block 0 c72_17
abbrev c72_19 : AC := .seq c72_2 c72_18
abbrev c72_20 : AC := .reg [⟨(some 4), .mv (.k (.I (-1))), none⟩] false
abbrev c72_21 : AC := .seq c72_20 .ret
abbrev c72_22 : AC := .seq c72_19 c72_21
abbrev c72_23 : AC := .seq c72_1 c72_22
abbrev c72 : AC := c72_23
theorem code72 : fnCode Try.prog 72 = some (c72, [4], 19) := by kernel_rfl
/- cmp.isNaN[int] -/
abbrev c73_1 : AC := .reg [⟨(some 2), .mv (.k (.B false)), none⟩] false
abbrev c73_2 : AC := .reg [⟨(some 3), .mv (.t 0), none⟩,
  ⟨(some 4), .mv (.t 0), none⟩,
  ⟨(some 5), .bin .neq (.t 3) (.t 4), none⟩,
  ⟨(some 2), .mv (.t 5), none⟩] false
abbrev c73_3 : AC := .seq c73_2 .ret
abbrev c73_4 : AC := .seq c73_1 c73_3
abbrev c73 : AC := c73_4
theorem code73 : fnCode Try.prog 73 = some (c73, [2], 6) := by kernel_rfl

end Go.Proofs.Ytlomngideedobaa

