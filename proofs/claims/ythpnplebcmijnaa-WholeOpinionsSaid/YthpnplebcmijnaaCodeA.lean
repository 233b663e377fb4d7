/-
  Lemmas for the proof: no statement of its own.
-/
import Derived.Test.YthpnplebcmijnaaProg
import Derived.Test.YthpnplebcmijnaaAlD
import Derived.KernelRfl
set_option linter.unusedVariables false
set_option linter.unusedSimpArgs false
open Go Go.AL
namespace Go.Proofs.Ythpnplebcmijnaa
/- coinage/opinion.Diff -/
abbrev c6_1 : AC := .reg [⟨(some 4), .mv (.k (.c .nil)), none⟩,
  ⟨(some 5), .mv (.k (.I 0)), none⟩] false
abbrev c6_2 : AC := .reg [⟨(some 11), .mv (.t 0), none⟩,
  ⟨(some 12), .call 11 [(.t 11)], none⟩,
  ⟨(some 13), .not (.t 12), none⟩,
  ⟨(some 14), .mv (.t 13), none⟩,
  ⟨(some 15), .mv (.t 1), (some (14, false))⟩,
  ⟨(some 16), .call 11 [(.t 15)], (some (14, false))⟩,
  ⟨(some 17), .not (.t 16), (some (14, false))⟩,
  ⟨(some 18), .pick (.t 14) (.k (.B true)) (.t 17), none⟩] false
abbrev c6_3 : AC := .reg [⟨(some 4), .mv (.k (.c .nil)), none⟩,
  ⟨(some 5), .mv (.k (.I 1)), none⟩] false
abbrev c6_4 : AC := .seq c6_3 .ret
abbrev c6_5 : AC := .cond (.t 18) c6_4 .skip
abbrev c6_6 : AC := .seq c6_2 c6_5
abbrev c6_7 : AC := .reg [⟨(some 19), .mv (.t 0), none⟩,
  ⟨(some 20), .call 12 [(.t 19)], none⟩,
  ⟨(some 21), .mv (.t 1), none⟩,
  ⟨(some 22), .call 12 [(.t 21)], none⟩,
  ⟨(some 6), .mv (.t 20), none⟩,
  ⟨(some 7), .mv (.t 22), none⟩] false
abbrev c6_8 : AC := .reg [⟨(some 8), .mv (.k (.c .nil)), none⟩] false
abbrev c6_9 : AC := .reg [⟨(some 23), .mv (.t 6), none⟩,
  ⟨(some 24), .mv (.t 7), none⟩,
  ⟨(some 25), .bslice 43 1 [(.t 23), (.t 24)], none⟩,
  ⟨(some 26), .call 13 [(.t 25)], none⟩,
  ⟨(some 27), .len (.t 26), none⟩,
  ⟨(some 28), .mv (.k (.I 0)), none⟩] false
abbrev c6_10 : AC := .reg [⟨(some 29), .bin .lss (.t 28) (.t 27), none⟩] false
abbrev c6_11 : AC := .cond (.t 29) .skip (.exit 0)
abbrev c6_12 : AC := .reg [⟨(some 30), .iad 1 (.t 26) (.t 28), none⟩,
  ⟨(some 31), .ld none (.t 30), none⟩,
  ⟨(some 10), .mv (.t 31), none⟩] false
abbrev c6_13 : AC := .reg [⟨(some 32), .mv (.t 6), none⟩,
  ⟨(some 33), .mv (.t 10), none⟩,
  ⟨(some 34), .look (.one .i64) (.inr [(.sc (.int .i64 0)), (.sc (.bool false))]) false (.t 32) (.t 33), none⟩,
  ⟨(some 35), .mv (.t 7), none⟩,
  ⟨(some 36), .mv (.t 10), none⟩,
  ⟨(some 37), .look (.one .i64) (.inr [(.sc (.int .i64 0)), (.sc (.bool false))]) false (.t 35) (.t 36), none⟩,
  ⟨(some 38), .eqs true [false, true] (.t 34) (.t 37), none⟩] false
abbrev c6_14 : AC := .reg [⟨(some 39), .mv (.t 8), none⟩,
  ⟨(some 40), .mv (.t 10), none⟩,
  ⟨(some 41), .mv (.t 6), none⟩,
  ⟨(some 42), .mv (.t 10), none⟩,
  ⟨(some 43), .look (.one .i64) (.inr [(.sc (.int .i64 0)), (.sc (.bool false))]) false (.t 41) (.t 42), none⟩,
  ⟨(some 44), .mv (.t 7), none⟩,
  ⟨(some 45), .mv (.t 10), none⟩,
  ⟨(some 46), .look (.one .i64) (.inr [(.sc (.int .i64 0)), (.sc (.bool false))]) false (.t 44) (.t 45), none⟩,
  ⟨(some 47), .call 15 [(.t 40), (.t 43), (.t 46)], none⟩,
  ⟨(some 48), .bslice 37 5 [(.t 47)], none⟩,
  ⟨(some 49), .app 37 5 32 (.t 39) (.t 48), none⟩,
  ⟨(some 8), .mv (.t 49), none⟩] false
abbrev c6_15 : AC := .cond (.t 38) c6_14 .skip
abbrev c6_16 : AC := .seq c6_13 c6_15
abbrev c6_17 : AC := .seq c6_12 c6_16
abbrev c6_18 : AC := .block 1 c6_17
abbrev c6_19 : AC := .reg [⟨(some 50), .bin .add (.t 28) (.k (.I 1)), none⟩,
  ⟨(some 28), .mv (.t 50), none⟩] false
abbrev c6_20 : AC := .seq c6_18 c6_19
abbrev c6_21 : AC := .seq c6_11 c6_20
abbrev c6_22 : AC := .seq c6_10 c6_21
abbrev c6_23 : AC := .loop c6_22
abbrev c6_24 : AC := .block 0 c6_23
abbrev c6_25 : AC := .seq c6_9 c6_24
abbrev c6_26 : AC := .reg [⟨(some 51), .mv (.t 8), none⟩,
  ⟨(some 52), .len (.t 51), none⟩,
  ⟨(some 53), .bin .gtr (.t 52) (.k (.I 64)), none⟩] false
abbrev c6_27 : AC := .reg [⟨(some 4), .mv (.k (.c .nil)), none⟩,
  ⟨(some 5), .mv (.k (.I 6)), none⟩] false
abbrev c6_28 : AC := .seq c6_27 .ret
abbrev c6_29 : AC := .cond (.t 53) c6_28 .skip
abbrev c6_30 : AC := .seq c6_26 c6_29
abbrev c6_31 : AC := .reg [⟨(some 54), .mv (.t 8), none⟩,
  ⟨(some 4), .mv (.t 54), none⟩,
  ⟨(some 5), .mv (.k (.I 0)), none⟩] false
abbrev c6_32 : AC := .seq c6_31 .ret
abbrev c6_33 : AC := .seq c6_30 c6_32
abbrev c6_34 : AC := .seq c6_25 c6_33
abbrev c6_35 : AC := .seq c6_8 c6_34
abbrev c6_36 : AC := .seq c6_7 c6_35
abbrev c6_37 : AC := .seq c6_6 c6_36
abbrev c6_38 : AC := .seq c6_1 c6_37
abbrev c6 : AC := c6_38
theorem code6 : fnCode Try.prog 6 = some (c6, [4, 5], 55) := by kernel_rfl
/- coinage/coinagebase.Entries -/
abbrev c7_1 : AC := .reg [⟨(some 4), .mv (.k (.B false)), none⟩] false
abbrev c7_2 : AC := .reg [⟨(some 6), .mv (.t 0), none⟩,
  ⟨(some 7), .len (.t 6), none⟩,
  ⟨(some 8), .mv (.t 1), none⟩,
  ⟨(some 9), .len (.t 8), none⟩,
  ⟨(some 10), .bin .neq (.t 7) (.t 9), none⟩] false
abbrev c7_3 : AC := .reg [⟨(some 4), .mv (.k (.B false)), none⟩] false
abbrev c7_4 : AC := .seq c7_3 .ret
abbrev c7_5 : AC := .cond (.t 10) c7_4 .skip
abbrev c7_6 : AC := .seq c7_2 c7_5
abbrev c7_7 : AC := .reg [⟨(some 5), .mv (.k (.I 0)), none⟩] false
abbrev c7_8 : AC := .reg [⟨(some 11), .mv (.t 5), none⟩,
  ⟨(some 12), .mv (.t 0), none⟩,
  ⟨(some 13), .len (.t 12), none⟩,
  ⟨(some 14), .bin .lss (.t 11) (.t 13), none⟩] false
abbrev c7_9 : AC := .cond (.t 14) .skip (.exit 0)
abbrev c7_10 : AC := .seq c7_8 c7_9
abbrev c7_11 : AC := .regD [(⟨(some 17), .mv (.t 0), none⟩, [0]),
  (⟨(some 18), .mv (.t 5), none⟩, [5]),
  (⟨(some 19), .iad 2 (.t 17) (.t 18), none⟩, [17, 18]),
  (⟨(some 20), .ld (some 2) (.t 19), none⟩, [19]),
  (⟨(some 21), .mv (.t 1), none⟩, [1]),
  (⟨(some 22), .mv (.t 5), none⟩, [5]),
  (⟨(some 23), .iad 2 (.t 21) (.t 22), none⟩, [21, 22]),
  (⟨(some 24), .ld (some 2) (.t 23), none⟩, [23]),
  (⟨(some 25), .eqs true [false, false] (.t 20) (.t 24), none⟩, [20, 24])]
abbrev c7_12 : AC := .reg [⟨(some 4), .mv (.k (.B false)), none⟩] false
abbrev c7_13 : AC := .seq c7_12 .ret
abbrev c7_14 : AC := .cond (.t 25) c7_13 .skip
abbrev c7_15 : AC := .seq c7_11 c7_14
abbrev c7_16 : AC := .block 1 c7_15
abbrev c7_17 : AC := .reg [⟨(some 15), .mv (.t 5), none⟩,
  ⟨(some 16), .bin .add (.t 15) (.k (.I 1)), none⟩,
  ⟨(some 5), .mv (.t 16), none⟩] false
abbrev c7_18 : AC := .seq c7_16 c7_17
abbrev c7_19 : AC := .seq c7_10 c7_18
abbrev c7_20 : AC := .loop c7_19
abbrev c7_21 : AC := .block 0 c7_20
abbrev c7_22 : AC := .seq c7_7 c7_21
abbrev c7_23 : AC := .reg [⟨(some 4), .mv (.k (.B true)), none⟩] false
abbrev c7_24 : AC := .seq c7_23 .ret
abbrev c7_25 : AC := .seq c7_22 c7_24
abbrev c7_26 : AC := .seq c7_6 c7_25
abbrev c7_27 : AC := .seq c7_1 c7_26
abbrev c7 : AC := c7_27
theorem code7 : fnCode Try.prog 7 = some (c7, [4], 26) := by kernel_rfl
/- coinage/opinion.Merge -/
abbrev c5_1 : AC := .reg [⟨(some 6), .mv (.k (.c .nil)), none⟩,
  ⟨(some 7), .mv (.k (.c .nil)), none⟩,
  ⟨(some 8), .mv (.k (.I 0)), none⟩] false
abbrev c5_2 : AC := .reg [⟨(some 17), .mv (.t 0), none⟩,
  ⟨(some 18), .call 11 [(.t 17)], none⟩,
  ⟨(some 19), .not (.t 18), none⟩,
  ⟨(some 20), .mv (.t 19), none⟩,
  ⟨(some 21), .mv (.t 1), (some (20, false))⟩,
  ⟨(some 22), .call 11 [(.t 21)], (some (20, false))⟩,
  ⟨(some 23), .not (.t 22), (some (20, false))⟩,
  ⟨(some 24), .pick (.t 20) (.k (.B true)) (.t 23), none⟩,
  ⟨(some 25), .mv (.t 24), none⟩,
  ⟨(some 26), .mv (.t 2), (some (25, false))⟩,
  ⟨(some 27), .call 11 [(.t 26)], (some (25, false))⟩,
  ⟨(some 28), .not (.t 27), (some (25, false))⟩,
  ⟨(some 29), .pick (.t 25) (.k (.B true)) (.t 28), none⟩] false
abbrev c5_3 : AC := .reg [⟨(some 6), .mv (.k (.c .nil)), none⟩,
  ⟨(some 7), .mv (.k (.c .nil)), none⟩,
  ⟨(some 8), .mv (.k (.I 1)), none⟩] false
abbrev c5_4 : AC := .seq c5_3 .ret
abbrev c5_5 : AC := .cond (.t 29) c5_4 .skip
abbrev c5_6 : AC := .seq c5_2 c5_5
abbrev c5_7 : AC := .reg [⟨(some 30), .mv (.t 0), none⟩,
  ⟨(some 31), .call 12 [(.t 30)], none⟩,
  ⟨(some 32), .mv (.t 1), none⟩,
  ⟨(some 33), .call 12 [(.t 32)], none⟩,
  ⟨(some 34), .mv (.t 2), none⟩,
  ⟨(some 35), .call 12 [(.t 34)], none⟩,
  ⟨(some 9), .mv (.t 31), none⟩,
  ⟨(some 10), .mv (.t 33), none⟩,
  ⟨(some 11), .mv (.t 35), none⟩] false
abbrev c5_8 : AC := .reg [⟨(some 36), .mkmap (.one .i64), none⟩,
  ⟨(some 12), .mv (.t 36), none⟩] false
abbrev c5_9 : AC := .reg [⟨(some 13), .mv (.k (.c .nil)), none⟩] false
abbrev c5_10 : AC := .reg [⟨(some 37), .mv (.t 9), none⟩,
  ⟨(some 38), .mv (.t 10), none⟩,
  ⟨(some 39), .mv (.t 11), none⟩,
  ⟨(some 40), .bslice 43 1 [(.t 37), (.t 38), (.t 39)], none⟩,
  ⟨(some 41), .call 13 [(.t 40)], none⟩,
  ⟨(some 42), .len (.t 41), none⟩,
  ⟨(some 43), .mv (.k (.I 0)), none⟩] false
abbrev c5_11 : AC := .reg [⟨(some 44), .bin .lss (.t 43) (.t 42), none⟩] false
abbrev c5_12 : AC := .cond (.t 44) .skip (.exit 0)
abbrev c5_13 : AC := .reg [⟨(some 45), .iad 1 (.t 41) (.t 43), none⟩,
  ⟨(some 46), .ld none (.t 45), none⟩,
  ⟨(some 15), .mv (.t 46), none⟩] false
abbrev c5_14 : AC := .reg [⟨(some 57), .mv (.t 10), none⟩,
  ⟨(some 58), .mv (.t 15), none⟩,
  ⟨(some 59), .look (.one .i64) (.inr [(.sc (.int .i64 0)), (.sc (.bool false))]) false (.t 57) (.t 58), none⟩,
  ⟨(some 60), .mv (.t 11), none⟩,
  ⟨(some 61), .mv (.t 15), none⟩,
  ⟨(some 62), .look (.one .i64) (.inr [(.sc (.int .i64 0)), (.sc (.bool false))]) false (.t 60) (.t 61), none⟩,
  ⟨(some 63), .eqs false [false, true] (.t 59) (.t 62), none⟩,
  ⟨(some 56), .mv (.t 63), none⟩] false
abbrev c5_15 : AC := .reg [⟨(some 64), .mv (.t 11), none⟩,
  ⟨(some 65), .mv (.t 15), none⟩,
  ⟨(some 66), .look (.one .i64) (.inr [(.sc (.int .i64 0)), (.sc (.bool false))]) false (.t 64) (.t 65), none⟩,
  ⟨(some 67), .mv (.t 9), none⟩,
  ⟨(some 68), .mv (.t 15), none⟩,
  ⟨(some 69), .look (.one .i64) (.inr [(.sc (.int .i64 0)), (.sc (.bool false))]) false (.t 67) (.t 68), none⟩,
  ⟨(some 70), .eqs false [false, true] (.t 66) (.t 69), none⟩,
  ⟨(some 56), .mv (.t 70), none⟩] false
abbrev c5_16 : AC := .cond (.t 56) .skip c5_15
abbrev c5_17 : AC := .seq c5_14 c5_16
abbrev c5_18 : AC := .reg [⟨(some 71), .mv (.t 12), none⟩,
  ⟨(some 72), .mv (.t 15), none⟩,
  ⟨(some 73), .mv (.t 10), none⟩,
  ⟨(some 74), .mv (.t 15), none⟩,
  ⟨(some 75), .look (.one .i64) (.inr [(.sc (.int .i64 0)), (.sc (.bool false))]) false (.t 73) (.t 74), none⟩,
  ⟨none, .mset (.one .i64) (.t 71) (.t 72) (.t 75), none⟩] false
abbrev c5_19 : AC := .reg [⟨(some 77), .mv (.t 10), none⟩,
  ⟨(some 78), .mv (.t 15), none⟩,
  ⟨(some 79), .look (.one .i64) (.inr [(.sc (.int .i64 0)), (.sc (.bool false))]) false (.t 77) (.t 78), none⟩,
  ⟨(some 80), .mv (.t 9), none⟩,
  ⟨(some 81), .mv (.t 15), none⟩,
  ⟨(some 82), .look (.one .i64) (.inr [(.sc (.int .i64 0)), (.sc (.bool false))]) false (.t 80) (.t 81), none⟩,
  ⟨(some 83), .eqs false [false, true] (.t 79) (.t 82), none⟩,
  ⟨(some 76), .mv (.t 83), none⟩] false
abbrev c5_20 : AC := .reg [⟨(some 84), .mv (.t 12), none⟩,
  ⟨(some 85), .mv (.t 15), none⟩,
  ⟨(some 86), .mv (.t 11), none⟩,
  ⟨(some 87), .mv (.t 15), none⟩,
  ⟨(some 88), .look (.one .i64) (.inr [(.sc (.int .i64 0)), (.sc (.bool false))]) false (.t 86) (.t 87), none⟩,
  ⟨none, .mset (.one .i64) (.t 84) (.t 85) (.t 88), none⟩] false
abbrev c5_21 : AC := .reg [⟨(some 47), .mv (.t 12), none⟩,
  ⟨(some 48), .mv (.t 15), none⟩,
  ⟨(some 49), .mv (.t 9), none⟩,
  ⟨(some 50), .mv (.t 15), none⟩,
  ⟨(some 51), .look (.one .i64) (.inr [(.sc (.int .i64 0)), (.sc (.bool false))]) false (.t 49) (.t 50), none⟩,
  ⟨none, .mset (.one .i64) (.t 47) (.t 48) (.t 51), none⟩] false
abbrev c5_22 : AC := .reg [⟨(some 52), .mv (.t 13), none⟩,
  ⟨(some 53), .mv (.t 15), none⟩,
  ⟨(some 54), .bslice 3 1 [(.t 53)], none⟩,
  ⟨(some 55), .app 3 1 8 (.t 52) (.t 54), none⟩,
  ⟨(some 13), .mv (.t 55), none⟩] false
abbrev c5_23 : AC := .seq c5_21 c5_22
abbrev c5_24 : AC := .cond (.t 76) c5_20 c5_23
abbrev c5_25 : AC := .seq c5_19 c5_24
abbrev c5_26 : AC := .cond (.t 56) c5_18 c5_25
abbrev c5_27 : AC := .seq c5_17 c5_26
abbrev c5_28 : AC := .block 2 c5_27
abbrev c5_29 : AC := .seq c5_13 c5_28
abbrev c5_30 : AC := .block 1 c5_29
abbrev c5_31 : AC := .reg [⟨(some 89), .bin .add (.t 43) (.k (.I 1)), none⟩,
  ⟨(some 43), .mv (.t 89), none⟩] false
abbrev c5_32 : AC := .seq c5_30 c5_31
abbrev c5_33 : AC := .seq c5_12 c5_32
abbrev c5_34 : AC := .seq c5_11 c5_33
abbrev c5_35 : AC := .loop c5_34
abbrev c5_36 : AC := .block 0 c5_35
abbrev c5_37 : AC := .seq c5_10 c5_36
abbrev c5_38 : AC := .reg [⟨(some 90), .mv (.t 12), none⟩,
  ⟨(some 91), .call 14 [(.t 90)], none⟩,
  ⟨(some 16), .mv (.t 91), none⟩] false
abbrev c5_39 : AC := .reg [⟨(some 92), .mv (.t 16), none⟩,
  ⟨(some 93), .len (.t 92), none⟩,
  ⟨(some 94), .bin .gtr (.t 93) (.k (.I 64)), none⟩,
  ⟨(some 95), .mv (.t 94), none⟩,
  ⟨(some 96), .mv (.t 13), (some (95, false))⟩,
  ⟨(some 97), .len (.t 96), (some (95, false))⟩,
  ⟨(some 98), .bin .gtr (.t 97) (.k (.I 64)), (some (95, false))⟩,
  ⟨(some 99), .pick (.t 95) (.k (.B true)) (.t 98), none⟩] false
abbrev c5_40 : AC := .reg [⟨(some 6), .mv (.k (.c .nil)), none⟩,
  ⟨(some 7), .mv (.k (.c .nil)), none⟩,
  ⟨(some 8), .mv (.k (.I 6)), none⟩] false
abbrev c5_41 : AC := .seq c5_40 .ret
abbrev c5_42 : AC := .cond (.t 99) c5_41 .skip
abbrev c5_43 : AC := .seq c5_39 c5_42
abbrev c5_44 : AC := .reg [⟨(some 100), .mv (.t 16), none⟩,
  ⟨(some 101), .mv (.t 13), none⟩,
  ⟨(some 6), .mv (.t 100), none⟩,
  ⟨(some 7), .mv (.t 101), none⟩,
  ⟨(some 8), .mv (.k (.I 0)), none⟩] false
abbrev c5_45 : AC := .seq c5_44 .ret
abbrev c5_46 : AC := .seq c5_43 c5_45
abbrev c5_47 : AC := .seq c5_38 c5_46
abbrev c5_48 : AC := .seq c5_37 c5_47
abbrev c5_49 : AC := .seq c5_9 c5_48
abbrev c5_50 : AC := .seq c5_8 c5_49
abbrev c5_51 : AC := .seq c5_7 c5_50
abbrev c5_52 : AC := .seq c5_6 c5_51
abbrev c5_53 : AC := .seq c5_1 c5_52
abbrev c5 : AC := c5_53
theorem code5 : fnCode Try.prog 5 = some (c5, [6, 7, 8], 102) := by kernel_rfl
/- coinage/opinion.Valid -/
abbrev c11_1 : AC := .reg [⟨(some 2), .mv (.k (.B false)), none⟩] false
abbrev c11_2 : AC := .reg [⟨(some 4), .mv (.t 0), none⟩,
  ⟨(some 5), .len (.t 4), none⟩,
  ⟨(some 6), .mv (.k (.I 0)), none⟩] false
abbrev c11_3 : AC := .reg [⟨(some 7), .bin .lss (.t 6) (.t 5), none⟩] false
abbrev c11_4 : AC := .cond (.t 7) .skip (.exit 0)
abbrev c11_5 : AC := .reg [⟨(some 8), .mv (.t 6), none⟩,
  ⟨(some 3), .mv (.t 8), none⟩] false
abbrev c11_6 : AC := .regD [(⟨(some 9), .mv (.t 3), none⟩, [3]),
  (⟨(some 10), .bin .gtr (.t 9) (.k (.I 0)), none⟩, [9]),
  (⟨(some 11), .mv (.t 10), none⟩, [10]),
  (⟨(some 12), .mv (.t 0), (some (11, true))⟩, [0, 11]),
  (⟨(some 13), .mv (.t 3), (some (11, true))⟩, [3, 11]),
  (⟨(some 14), .iad 2 (.t 12) (.t 13), (some (11, true))⟩, [12, 13, 11]),
  (⟨(some 15), .fad 0 (.t 14), (some (11, true))⟩, [14, 11]),
  (⟨(some 16), .ld none (.t 15), (some (11, true))⟩, [15, 11]),
  (⟨(some 17), .mv (.t 0), (some (11, true))⟩, [0, 11]),
  (⟨(some 18), .mv (.t 3), (some (11, true))⟩, [3, 11]),
  (⟨(some 19), .bin .sub (.t 18) (.k (.I 1)), (some (11, true))⟩, [18, 11]),
  (⟨(some 20), .iad 2 (.t 17) (.t 19), (some (11, true))⟩, [17, 19, 11]),
  (⟨(some 21), .fad 0 (.t 20), (some (11, true))⟩, [20, 11]),
  (⟨(some 22), .ld none (.t 21), (some (11, true))⟩, [21, 11]),
  (⟨(some 23), .bin .leq (.t 16) (.t 22), (some (11, true))⟩, [16, 22, 11]),
  (⟨(some 24), .pick (.t 11) (.t 23) (.k (.B false)), none⟩, [11, 23])]
abbrev c11_7 : AC := .reg [⟨(some 2), .mv (.k (.B false)), none⟩] false
abbrev c11_8 : AC := .seq c11_7 .ret
abbrev c11_9 : AC := .cond (.t 24) c11_8 .skip
abbrev c11_10 : AC := .seq c11_6 c11_9
abbrev c11_11 : AC := .seq c11_5 c11_10
abbrev c11_12 : AC := .block 1 c11_11
abbrev c11_13 : AC := .reg [⟨(some 25), .bin .add (.t 6) (.k (.I 1)), none⟩,
  ⟨(some 6), .mv (.t 25), none⟩] false
abbrev c11_14 : AC := .seq c11_12 c11_13
abbrev c11_15 : AC := .seq c11_4 c11_14
abbrev c11_16 : AC := .seq c11_3 c11_15
abbrev c11_17 : AC := .loop c11_16
abbrev c11_18 : AC := .block 0 c11_17
abbrev c11_19 : AC := .seq c11_2 c11_18
abbrev c11_20 : AC := .reg [⟨(some 26), .mv (.t 0), none⟩,
  ⟨(some 27), .len (.t 26), none⟩,
  ⟨(some 28), .bin .leq (.t 27) (.k (.I 64)), none⟩,
  ⟨(some 2), .mv (.t 28), none⟩] false
abbrev c11_21 : AC := .seq c11_20 .ret
abbrev c11_22 : AC := .seq c11_19 c11_21
abbrev c11_23 : AC := .seq c11_1 c11_22
abbrev c11 : AC := c11_23
theorem code11 : fnCode Try.prog 11 = some (c11, [2], 29) := by kernel_rfl
/- coinage/opinion.Invert -/
abbrev c10_1 : AC := .reg [⟨(some 2), .mv (.k (.c .nil)), none⟩,
  ⟨(some 3), .mv (.k (.I 0)), none⟩] false
abbrev c10_2 : AC := .reg [⟨(some 7), .mv (.t 0), none⟩,
  ⟨(some 8), .call 16 [(.t 7)], none⟩,
  ⟨(some 9), .not (.t 8), none⟩] false
abbrev c10_3 : AC := .reg [⟨(some 2), .mv (.k (.c .nil)), none⟩,
  ⟨(some 3), .mv (.k (.I 1)), none⟩] false
abbrev c10_4 : AC := .seq c10_3 .ret
abbrev c10_5 : AC := .cond (.t 9) c10_4 .skip
abbrev c10_6 : AC := .seq c10_2 c10_5
abbrev c10_7 : AC := .reg [⟨(some 4), .mv (.k (.c .nil)), none⟩] false
abbrev c10_8 : AC := .reg [⟨(some 10), .mv (.t 0), none⟩,
  ⟨(some 11), .len (.t 10), none⟩,
  ⟨(some 12), .mv (.k (.I 0)), none⟩] false
abbrev c10_9 : AC := .reg [⟨(some 13), .bin .lss (.t 12) (.t 11), none⟩] false
abbrev c10_10 : AC := .cond (.t 13) .skip (.exit 0)
abbrev c10_11 : AC := .reg [⟨(some 14), .iad 5 (.t 10) (.t 12), none⟩,
  ⟨(some 15), .ld (some 5) (.t 14), none⟩,
  ⟨(some 6), .alloc 37 [(.I 0), (.I 0), (.I 0), (.B false), (.B false)], none⟩,
  ⟨none, .st (some 5) (.t 6) (.t 15), none⟩] false
abbrev c10_12 : AC := .regX (.first ⟨(some 16), .mv (.t 4), none⟩
  (.first ⟨(some 17), .fad 0 (.t 6), none⟩
  (.fork ⟨(some 18), .ld none (.t 17), none⟩
  (.fork ⟨(some 19), .ld (some 5) (.t 6), none⟩
  (.fork ⟨(some 20), .call 18 [(.t 19)], none⟩
  (.fork ⟨(some 21), .ld (some 5) (.t 6), none⟩
  (.fork ⟨(some 22), .call 17 [(.t 21)], none⟩
  (.fork ⟨(some 23), .call 15 [(.t 18), (.t 20), (.t 22)], none⟩
  (.fork ⟨(some 24), .bslice 37 5 [(.t 23)], none⟩
  (.fork ⟨(some 25), .app 37 5 32 (.t 16) (.t 24), none⟩
  (.first ⟨(some 4), .mv (.t 25), none⟩
  .done)
  .nope)
  .nope)
  .nope)
  .nope)
  .nope)
  (.fork ⟨(some 21), .ld (some 5) (.t 6), none⟩
  (.fork ⟨(some 20), .call 18 [(.t 19)], none⟩
  (.fork ⟨(some 22), .call 17 [(.t 21)], none⟩
  (.fork ⟨(some 23), .call 15 [(.t 18), (.t 20), (.t 22)], none⟩
  (.fork ⟨(some 24), .bslice 37 5 [(.t 23)], none⟩
  (.fork ⟨(some 25), .app 37 5 32 (.t 16) (.t 24), none⟩
  (.first ⟨(some 4), .mv (.t 25), none⟩
  .done)
  .nope)
  .nope)
  .nope)
  .nope)
  .nope)
  .nope))
  (.fork ⟨(some 21), .ld (some 5) (.t 6), none⟩
  (.fork ⟨(some 19), .ld (some 5) (.t 6), none⟩
  (.fork ⟨(some 20), .call 18 [(.t 19)], none⟩
  (.fork ⟨(some 22), .call 17 [(.t 21)], none⟩
  (.fork ⟨(some 23), .call 15 [(.t 18), (.t 20), (.t 22)], none⟩
  (.fork ⟨(some 24), .bslice 37 5 [(.t 23)], none⟩
  (.fork ⟨(some 25), .app 37 5 32 (.t 16) (.t 24), none⟩
  (.first ⟨(some 4), .mv (.t 25), none⟩
  .done)
  .nope)
  .nope)
  .nope)
  .nope)
  .nope)
  .nope)
  .nope))
  (.fork ⟨(some 19), .ld (some 5) (.t 6), none⟩
  (.fork ⟨(some 18), .ld none (.t 17), none⟩
  (.fork ⟨(some 20), .call 18 [(.t 19)], none⟩
  (.fork ⟨(some 21), .ld (some 5) (.t 6), none⟩
  (.fork ⟨(some 22), .call 17 [(.t 21)], none⟩
  (.fork ⟨(some 23), .call 15 [(.t 18), (.t 20), (.t 22)], none⟩
  (.fork ⟨(some 24), .bslice 37 5 [(.t 23)], none⟩
  (.fork ⟨(some 25), .app 37 5 32 (.t 16) (.t 24), none⟩
  (.first ⟨(some 4), .mv (.t 25), none⟩
  .done)
  .nope)
  .nope)
  .nope)
  .nope)
  .nope)
  (.fork ⟨(some 21), .ld (some 5) (.t 6), none⟩
  (.fork ⟨(some 20), .call 18 [(.t 19)], none⟩
  (.fork ⟨(some 22), .call 17 [(.t 21)], none⟩
  (.fork ⟨(some 23), .call 15 [(.t 18), (.t 20), (.t 22)], none⟩
  (.fork ⟨(some 24), .bslice 37 5 [(.t 23)], none⟩
  (.fork ⟨(some 25), .app 37 5 32 (.t 16) (.t 24), none⟩
  (.first ⟨(some 4), .mv (.t 25), none⟩
  .done)
  .nope)
  .nope)
  .nope)
  .nope)
  .nope)
  .nope))
  (.fork ⟨(some 20), .call 18 [(.t 19)], none⟩
  (.fork ⟨(some 18), .ld none (.t 17), none⟩
  (.fork ⟨(some 21), .ld (some 5) (.t 6), none⟩
  (.fork ⟨(some 22), .call 17 [(.t 21)], none⟩
  (.fork ⟨(some 23), .call 15 [(.t 18), (.t 20), (.t 22)], none⟩
  (.fork ⟨(some 24), .bslice 37 5 [(.t 23)], none⟩
  (.fork ⟨(some 25), .app 37 5 32 (.t 16) (.t 24), none⟩
  (.first ⟨(some 4), .mv (.t 25), none⟩
  .done)
  .nope)
  .nope)
  .nope)
  .nope)
  .nope)
  (.fork ⟨(some 21), .ld (some 5) (.t 6), none⟩
  (.fork ⟨(some 18), .ld none (.t 17), none⟩
  (.fork ⟨(some 22), .call 17 [(.t 21)], none⟩
  (.fork ⟨(some 23), .call 15 [(.t 18), (.t 20), (.t 22)], none⟩
  (.fork ⟨(some 24), .bslice 37 5 [(.t 23)], none⟩
  (.fork ⟨(some 25), .app 37 5 32 (.t 16) (.t 24), none⟩
  (.first ⟨(some 4), .mv (.t 25), none⟩
  .done)
  .nope)
  .nope)
  .nope)
  .nope)
  (.fork ⟨(some 22), .call 17 [(.t 21)], none⟩
  (.fork ⟨(some 18), .ld none (.t 17), none⟩
  (.fork ⟨(some 23), .call 15 [(.t 18), (.t 20), (.t 22)], none⟩
  (.fork ⟨(some 24), .bslice 37 5 [(.t 23)], none⟩
  (.fork ⟨(some 25), .app 37 5 32 (.t 16) (.t 24), none⟩
  (.first ⟨(some 4), .mv (.t 25), none⟩
  .done)
  .nope)
  .nope)
  .nope)
  .nope)
  .nope))
  .nope))
  (.fork ⟨(some 21), .ld (some 5) (.t 6), none⟩
  (.fork ⟨(some 18), .ld none (.t 17), none⟩
  (.fork ⟨(some 20), .call 18 [(.t 19)], none⟩
  (.fork ⟨(some 22), .call 17 [(.t 21)], none⟩
  (.fork ⟨(some 23), .call 15 [(.t 18), (.t 20), (.t 22)], none⟩
  (.fork ⟨(some 24), .bslice 37 5 [(.t 23)], none⟩
  (.fork ⟨(some 25), .app 37 5 32 (.t 16) (.t 24), none⟩
  (.first ⟨(some 4), .mv (.t 25), none⟩
  .done)
  .nope)
  .nope)
  .nope)
  .nope)
  .nope)
  (.fork ⟨(some 20), .call 18 [(.t 19)], none⟩
  (.fork ⟨(some 18), .ld none (.t 17), none⟩
  (.fork ⟨(some 22), .call 17 [(.t 21)], none⟩
  (.fork ⟨(some 23), .call 15 [(.t 18), (.t 20), (.t 22)], none⟩
  (.fork ⟨(some 24), .bslice 37 5 [(.t 23)], none⟩
  (.fork ⟨(some 25), .app 37 5 32 (.t 16) (.t 24), none⟩
  (.first ⟨(some 4), .mv (.t 25), none⟩
  .done)
  .nope)
  .nope)
  .nope)
  .nope)
  (.fork ⟨(some 22), .call 17 [(.t 21)], none⟩
  (.fork ⟨(some 18), .ld none (.t 17), none⟩
  (.fork ⟨(some 23), .call 15 [(.t 18), (.t 20), (.t 22)], none⟩
  (.fork ⟨(some 24), .bslice 37 5 [(.t 23)], none⟩
  (.fork ⟨(some 25), .app 37 5 32 (.t 16) (.t 24), none⟩
  (.first ⟨(some 4), .mv (.t 25), none⟩
  .done)
  .nope)
  .nope)
  .nope)
  .nope)
  .nope))
  .nope))
  .nope)))
  (.fork ⟨(some 21), .ld (some 5) (.t 6), none⟩
  (.fork ⟨(some 18), .ld none (.t 17), none⟩
  (.fork ⟨(some 19), .ld (some 5) (.t 6), none⟩
  (.fork ⟨(some 20), .call 18 [(.t 19)], none⟩
  (.fork ⟨(some 22), .call 17 [(.t 21)], none⟩
  (.fork ⟨(some 23), .call 15 [(.t 18), (.t 20), (.t 22)], none⟩
  (.fork ⟨(some 24), .bslice 37 5 [(.t 23)], none⟩
  (.fork ⟨(some 25), .app 37 5 32 (.t 16) (.t 24), none⟩
  (.first ⟨(some 4), .mv (.t 25), none⟩
  .done)
  .nope)
  .nope)
  .nope)
  .nope)
  .nope)
  .nope)
  (.fork ⟨(some 19), .ld (some 5) (.t 6), none⟩
  (.fork ⟨(some 18), .ld none (.t 17), none⟩
  (.fork ⟨(some 20), .call 18 [(.t 19)], none⟩
  (.fork ⟨(some 22), .call 17 [(.t 21)], none⟩
  (.fork ⟨(some 23), .call 15 [(.t 18), (.t 20), (.t 22)], none⟩
  (.fork ⟨(some 24), .bslice 37 5 [(.t 23)], none⟩
  (.fork ⟨(some 25), .app 37 5 32 (.t 16) (.t 24), none⟩
  (.first ⟨(some 4), .mv (.t 25), none⟩
  .done)
  .nope)
  .nope)
  .nope)
  .nope)
  .nope)
  (.fork ⟨(some 20), .call 18 [(.t 19)], none⟩
  (.fork ⟨(some 18), .ld none (.t 17), none⟩
  (.fork ⟨(some 22), .call 17 [(.t 21)], none⟩
  (.fork ⟨(some 23), .call 15 [(.t 18), (.t 20), (.t 22)], none⟩
  (.fork ⟨(some 24), .bslice 37 5 [(.t 23)], none⟩
  (.fork ⟨(some 25), .app 37 5 32 (.t 16) (.t 24), none⟩
  (.first ⟨(some 4), .mv (.t 25), none⟩
  .done)
  .nope)
  .nope)
  .nope)
  .nope)
  (.fork ⟨(some 22), .call 17 [(.t 21)], none⟩
  (.fork ⟨(some 18), .ld none (.t 17), none⟩
  (.fork ⟨(some 23), .call 15 [(.t 18), (.t 20), (.t 22)], none⟩
  (.fork ⟨(some 24), .bslice 37 5 [(.t 23)], none⟩
  (.fork ⟨(some 25), .app 37 5 32 (.t 16) (.t 24), none⟩
  (.first ⟨(some 4), .mv (.t 25), none⟩
  .done)
  .nope)
  .nope)
  .nope)
  .nope)
  .nope))
  .nope))
  .nope))
  .nope)))))
abbrev c10_13 : AC := .seq c10_11 c10_12
abbrev c10_14 : AC := .block 1 c10_13
abbrev c10_15 : AC := .reg [⟨(some 26), .bin .add (.t 12) (.k (.I 1)), none⟩,
  ⟨(some 12), .mv (.t 26), none⟩] false
abbrev c10_16 : AC := .seq c10_14 c10_15
abbrev c10_17 : AC := .seq c10_10 c10_16
abbrev c10_18 : AC := .seq c10_9 c10_17
abbrev c10_19 : AC := .loop c10_18
abbrev c10_20 : AC := .block 0 c10_19
abbrev c10_21 : AC := .seq c10_8 c10_20
abbrev c10_22 : AC := .reg [⟨(some 27), .mv (.t 4), none⟩,
  ⟨(some 2), .mv (.t 27), none⟩,
  ⟨(some 3), .mv (.k (.I 0)), none⟩] false
abbrev c10_23 : AC := .seq c10_22 .ret
abbrev c10_24 : AC := .seq c10_21 c10_23
abbrev c10_25 : AC := .seq c10_7 c10_24
abbrev c10_26 : AC := .seq c10_6 c10_25
abbrev c10_27 : AC := .seq c10_1 c10_26
abbrev c10 : AC := c10_27
theorem code10 : fnCode Try.prog 10 = some (c10, [2, 3], 28) := by kernel_rfl
/- coinage/opinion.ValidChanges -/
abbrev c16_1 : AC := .reg [⟨(some 2), .mv (.k (.B false)), none⟩] false
abbrev c16_2 : AC := .reg [⟨(some 7), .mv (.t 0), none⟩,
  ⟨(some 8), .len (.t 7), none⟩,
  ⟨(some 9), .mv (.k (.I 0)), none⟩] false
abbrev c16_3 : AC := .reg [⟨(some 10), .bin .lss (.t 9) (.t 8), none⟩] false
abbrev c16_4 : AC := .cond (.t 10) .skip (.exit 0)
abbrev c16_5 : AC := .reg [⟨(some 11), .mv (.t 9), none⟩,
  ⟨(some 12), .iad 5 (.t 7) (.t 9), none⟩,
  ⟨(some 13), .ld (some 5) (.t 12), none⟩,
  ⟨(some 4), .alloc 37 [(.I 0), (.I 0), (.I 0), (.B false), (.B false)], none⟩,
  ⟨(some 3), .mv (.t 11), none⟩,
  ⟨none, .st (some 5) (.t 4) (.t 13), none⟩] false
abbrev c16_6 : AC := .regX (.fork ⟨(some 14), .ld (some 5) (.t 4), none⟩
  (.fork ⟨(some 15), .call 17 [(.t 14)], none⟩
  (.fork ⟨(some 16), .ld (some 5) (.t 4), none⟩
  (.fork ⟨(some 17), .call 18 [(.t 16)], none⟩
  (.fork ⟨(some 5), .alloc 47 [(.I 0), (.B false)], none⟩
  (.fork ⟨(some 6), .alloc 47 [(.I 0), (.B false)], none⟩
  (.fork ⟨none, .st (some 2) (.t 5) (.t 15), none⟩
  (.fork ⟨none, .st (some 2) (.t 6) (.t 17), none⟩
  .done
  .nope)
  .nope)
  .nope)
  (.fork ⟨(some 6), .alloc 47 [(.I 0), (.B false)], none⟩
  (.fork ⟨(some 5), .alloc 47 [(.I 0), (.B false)], none⟩
  (.fork ⟨none, .st (some 2) (.t 5) (.t 15), none⟩
  (.fork ⟨none, .st (some 2) (.t 6) (.t 17), none⟩
  .done
  .nope)
  .nope)
  .nope)
  .nope))
  (.fork ⟨(some 5), .alloc 47 [(.I 0), (.B false)], none⟩
  (.fork ⟨(some 17), .call 18 [(.t 16)], none⟩
  (.fork ⟨(some 6), .alloc 47 [(.I 0), (.B false)], none⟩
  (.fork ⟨none, .st (some 2) (.t 5) (.t 15), none⟩
  (.fork ⟨none, .st (some 2) (.t 6) (.t 17), none⟩
  .done
  .nope)
  .nope)
  .nope)
  (.fork ⟨(some 6), .alloc 47 [(.I 0), (.B false)], none⟩
  (.fork ⟨(some 17), .call 18 [(.t 16)], none⟩
  (.fork ⟨none, .st (some 2) (.t 5) (.t 15), none⟩
  (.fork ⟨none, .st (some 2) (.t 6) (.t 17), none⟩
  .done
  .nope)
  .nope)
  .nope)
  .nope))
  (.fork ⟨(some 6), .alloc 47 [(.I 0), (.B false)], none⟩
  (.fork ⟨(some 17), .call 18 [(.t 16)], none⟩
  (.fork ⟨(some 5), .alloc 47 [(.I 0), (.B false)], none⟩
  (.fork ⟨none, .st (some 2) (.t 5) (.t 15), none⟩
  (.fork ⟨none, .st (some 2) (.t 6) (.t 17), none⟩
  .done
  .nope)
  .nope)
  .nope)
  (.fork ⟨(some 5), .alloc 47 [(.I 0), (.B false)], none⟩
  (.fork ⟨(some 17), .call 18 [(.t 16)], none⟩
  (.fork ⟨none, .st (some 2) (.t 5) (.t 15), none⟩
  (.fork ⟨none, .st (some 2) (.t 6) (.t 17), none⟩
  .done
  .nope)
  .nope)
  .nope)
  .nope))
  .nope)))
  (.fork ⟨(some 5), .alloc 47 [(.I 0), (.B false)], none⟩
  (.fork ⟨(some 16), .ld (some 5) (.t 4), none⟩
  (.fork ⟨(some 17), .call 18 [(.t 16)], none⟩
  (.fork ⟨(some 6), .alloc 47 [(.I 0), (.B false)], none⟩
  (.fork ⟨none, .st (some 2) (.t 5) (.t 15), none⟩
  (.fork ⟨none, .st (some 2) (.t 6) (.t 17), none⟩
  .done
  .nope)
  .nope)
  .nope)
  (.fork ⟨(some 6), .alloc 47 [(.I 0), (.B false)], none⟩
  (.fork ⟨(some 17), .call 18 [(.t 16)], none⟩
  (.fork ⟨none, .st (some 2) (.t 5) (.t 15), none⟩
  (.fork ⟨none, .st (some 2) (.t 6) (.t 17), none⟩
  .done
  .nope)
  .nope)
  .nope)
  .nope))
  (.fork ⟨(some 6), .alloc 47 [(.I 0), (.B false)], none⟩
  (.fork ⟨(some 16), .ld (some 5) (.t 4), none⟩
  (.fork ⟨(some 17), .call 18 [(.t 16)], none⟩
  (.fork ⟨none, .st (some 2) (.t 5) (.t 15), none⟩
  (.fork ⟨none, .st (some 2) (.t 6) (.t 17), none⟩
  .done
  .nope)
  .nope)
  .nope)
  .nope)
  .nope))
  (.fork ⟨(some 6), .alloc 47 [(.I 0), (.B false)], none⟩
  (.fork ⟨(some 16), .ld (some 5) (.t 4), none⟩
  (.fork ⟨(some 17), .call 18 [(.t 16)], none⟩
  (.fork ⟨(some 5), .alloc 47 [(.I 0), (.B false)], none⟩
  (.fork ⟨none, .st (some 2) (.t 5) (.t 15), none⟩
  (.fork ⟨none, .st (some 2) (.t 6) (.t 17), none⟩
  .done
  .nope)
  .nope)
  .nope)
  (.fork ⟨(some 5), .alloc 47 [(.I 0), (.B false)], none⟩
  (.fork ⟨(some 17), .call 18 [(.t 16)], none⟩
  (.fork ⟨none, .st (some 2) (.t 5) (.t 15), none⟩
  (.fork ⟨none, .st (some 2) (.t 6) (.t 17), none⟩
  .done
  .nope)
  .nope)
  .nope)
  .nope))
  (.fork ⟨(some 5), .alloc 47 [(.I 0), (.B false)], none⟩
  (.fork ⟨(some 16), .ld (some 5) (.t 4), none⟩
  (.fork ⟨(some 17), .call 18 [(.t 16)], none⟩
  (.fork ⟨none, .st (some 2) (.t 5) (.t 15), none⟩
  (.fork ⟨none, .st (some 2) (.t 6) (.t 17), none⟩
  .done
  .nope)
  .nope)
  .nope)
  .nope)
  .nope))
  .nope)))
  (.fork ⟨(some 16), .ld (some 5) (.t 4), none⟩
  (.fork ⟨(some 15), .call 17 [(.t 14)], none⟩
  (.fork ⟨(some 17), .call 18 [(.t 16)], none⟩
  (.fork ⟨(some 5), .alloc 47 [(.I 0), (.B false)], none⟩
  (.fork ⟨(some 6), .alloc 47 [(.I 0), (.B false)], none⟩
  (.fork ⟨none, .st (some 2) (.t 5) (.t 15), none⟩
  (.fork ⟨none, .st (some 2) (.t 6) (.t 17), none⟩
  .done
  .nope)
  .nope)
  .nope)
  (.fork ⟨(some 6), .alloc 47 [(.I 0), (.B false)], none⟩
  (.fork ⟨(some 5), .alloc 47 [(.I 0), (.B false)], none⟩
  (.fork ⟨none, .st (some 2) (.t 5) (.t 15), none⟩
  (.fork ⟨none, .st (some 2) (.t 6) (.t 17), none⟩
  .done
  .nope)
  .nope)
  .nope)
  .nope))
  (.fork ⟨(some 5), .alloc 47 [(.I 0), (.B false)], none⟩
  (.fork ⟨(some 17), .call 18 [(.t 16)], none⟩
  (.fork ⟨(some 6), .alloc 47 [(.I 0), (.B false)], none⟩
  (.fork ⟨none, .st (some 2) (.t 5) (.t 15), none⟩
  (.fork ⟨none, .st (some 2) (.t 6) (.t 17), none⟩
  .done
  .nope)
  .nope)
  .nope)
  (.fork ⟨(some 6), .alloc 47 [(.I 0), (.B false)], none⟩
  (.fork ⟨(some 17), .call 18 [(.t 16)], none⟩
  (.fork ⟨none, .st (some 2) (.t 5) (.t 15), none⟩
  (.fork ⟨none, .st (some 2) (.t 6) (.t 17), none⟩
  .done
  .nope)
  .nope)
  .nope)
  .nope))
  (.fork ⟨(some 6), .alloc 47 [(.I 0), (.B false)], none⟩
  (.fork ⟨(some 17), .call 18 [(.t 16)], none⟩
  (.fork ⟨(some 5), .alloc 47 [(.I 0), (.B false)], none⟩
  (.fork ⟨none, .st (some 2) (.t 5) (.t 15), none⟩
  (.fork ⟨none, .st (some 2) (.t 6) (.t 17), none⟩
  .done
  .nope)
  .nope)
  .nope)
  (.fork ⟨(some 5), .alloc 47 [(.I 0), (.B false)], none⟩
  (.fork ⟨(some 17), .call 18 [(.t 16)], none⟩
  (.fork ⟨none, .st (some 2) (.t 5) (.t 15), none⟩
  (.fork ⟨none, .st (some 2) (.t 6) (.t 17), none⟩
  .done
  .nope)
  .nope)
  .nope)
  .nope))
  .nope)))
  (.fork ⟨(some 5), .alloc 47 [(.I 0), (.B false)], none⟩
  (.fork ⟨(some 15), .call 17 [(.t 14)], none⟩
  (.fork ⟨(some 17), .call 18 [(.t 16)], none⟩
  (.fork ⟨(some 6), .alloc 47 [(.I 0), (.B false)], none⟩
  (.fork ⟨none, .st (some 2) (.t 5) (.t 15), none⟩
  (.fork ⟨none, .st (some 2) (.t 6) (.t 17), none⟩
  .done
  .nope)
  .nope)
  .nope)
  (.fork ⟨(some 6), .alloc 47 [(.I 0), (.B false)], none⟩
  (.fork ⟨(some 17), .call 18 [(.t 16)], none⟩
  (.fork ⟨none, .st (some 2) (.t 5) (.t 15), none⟩
  (.fork ⟨none, .st (some 2) (.t 6) (.t 17), none⟩
  .done
  .nope)
  .nope)
  .nope)
  .nope))
  (.fork ⟨(some 6), .alloc 47 [(.I 0), (.B false)], none⟩
  (.fork ⟨(some 15), .call 17 [(.t 14)], none⟩
  (.fork ⟨(some 17), .call 18 [(.t 16)], none⟩
  (.fork ⟨none, .st (some 2) (.t 5) (.t 15), none⟩
  (.fork ⟨none, .st (some 2) (.t 6) (.t 17), none⟩
  .done
  .nope)
  .nope)
  .nope)
  .nope)
  .nope))
  (.fork ⟨(some 6), .alloc 47 [(.I 0), (.B false)], none⟩
  (.fork ⟨(some 15), .call 17 [(.t 14)], none⟩
  (.fork ⟨(some 17), .call 18 [(.t 16)], none⟩
  (.fork ⟨(some 5), .alloc 47 [(.I 0), (.B false)], none⟩
  (.fork ⟨none, .st (some 2) (.t 5) (.t 15), none⟩
  (.fork ⟨none, .st (some 2) (.t 6) (.t 17), none⟩
  .done
  .nope)
  .nope)
  .nope)
  (.fork ⟨(some 5), .alloc 47 [(.I 0), (.B false)], none⟩
  (.fork ⟨(some 17), .call 18 [(.t 16)], none⟩
  (.fork ⟨none, .st (some 2) (.t 5) (.t 15), none⟩
  (.fork ⟨none, .st (some 2) (.t 6) (.t 17), none⟩
  .done
  .nope)
  .nope)
  .nope)
  .nope))
  (.fork ⟨(some 5), .alloc 47 [(.I 0), (.B false)], none⟩
  (.fork ⟨(some 15), .call 17 [(.t 14)], none⟩
  (.fork ⟨(some 17), .call 18 [(.t 16)], none⟩
  (.fork ⟨none, .st (some 2) (.t 5) (.t 15), none⟩
  (.fork ⟨none, .st (some 2) (.t 6) (.t 17), none⟩
  .done
  .nope)
  .nope)
  .nope)
  .nope)
  .nope))
  .nope)))
  (.fork ⟨(some 5), .alloc 47 [(.I 0), (.B false)], none⟩
  (.fork ⟨(some 15), .call 17 [(.t 14)], none⟩
  (.fork ⟨(some 16), .ld (some 5) (.t 4), none⟩
  (.fork ⟨(some 17), .call 18 [(.t 16)], none⟩
  (.fork ⟨(some 6), .alloc 47 [(.I 0), (.B false)], none⟩
  (.fork ⟨none, .st (some 2) (.t 5) (.t 15), none⟩
  (.fork ⟨none, .st (some 2) (.t 6) (.t 17), none⟩
  .done
  .nope)
  .nope)
  .nope)
  (.fork ⟨(some 6), .alloc 47 [(.I 0), (.B false)], none⟩
  (.fork ⟨(some 17), .call 18 [(.t 16)], none⟩
  (.fork ⟨none, .st (some 2) (.t 5) (.t 15), none⟩
  (.fork ⟨none, .st (some 2) (.t 6) (.t 17), none⟩
  .done
  .nope)
  .nope)
  .nope)
  .nope))
  (.fork ⟨(some 6), .alloc 47 [(.I 0), (.B false)], none⟩
  (.fork ⟨(some 16), .ld (some 5) (.t 4), none⟩
  (.fork ⟨(some 17), .call 18 [(.t 16)], none⟩
  (.fork ⟨none, .st (some 2) (.t 5) (.t 15), none⟩
  (.fork ⟨none, .st (some 2) (.t 6) (.t 17), none⟩
  .done
  .nope)
  .nope)
  .nope)
  .nope)
  .nope))
  (.fork ⟨(some 16), .ld (some 5) (.t 4), none⟩
  (.fork ⟨(some 15), .call 17 [(.t 14)], none⟩
  (.fork ⟨(some 17), .call 18 [(.t 16)], none⟩
  (.fork ⟨(some 6), .alloc 47 [(.I 0), (.B false)], none⟩
  (.fork ⟨none, .st (some 2) (.t 5) (.t 15), none⟩
  (.fork ⟨none, .st (some 2) (.t 6) (.t 17), none⟩
  .done
  .nope)
  .nope)
  .nope)
  (.fork ⟨(some 6), .alloc 47 [(.I 0), (.B false)], none⟩
  (.fork ⟨(some 17), .call 18 [(.t 16)], none⟩
  (.fork ⟨none, .st (some 2) (.t 5) (.t 15), none⟩
  (.fork ⟨none, .st (some 2) (.t 6) (.t 17), none⟩
  .done
  .nope)
  .nope)
  .nope)
  .nope))
  (.fork ⟨(some 6), .alloc 47 [(.I 0), (.B false)], none⟩
  (.fork ⟨(some 15), .call 17 [(.t 14)], none⟩
  (.fork ⟨(some 17), .call 18 [(.t 16)], none⟩
  (.fork ⟨none, .st (some 2) (.t 5) (.t 15), none⟩
  (.fork ⟨none, .st (some 2) (.t 6) (.t 17), none⟩
  .done
  .nope)
  .nope)
  .nope)
  .nope)
  .nope))
  (.fork ⟨(some 6), .alloc 47 [(.I 0), (.B false)], none⟩
  (.fork ⟨(some 15), .call 17 [(.t 14)], none⟩
  (.fork ⟨(some 16), .ld (some 5) (.t 4), none⟩
  (.fork ⟨(some 17), .call 18 [(.t 16)], none⟩
  (.fork ⟨none, .st (some 2) (.t 5) (.t 15), none⟩
  (.fork ⟨none, .st (some 2) (.t 6) (.t 17), none⟩
  .done
  .nope)
  .nope)
  .nope)
  .nope)
  (.fork ⟨(some 16), .ld (some 5) (.t 4), none⟩
  (.fork ⟨(some 15), .call 17 [(.t 14)], none⟩
  (.fork ⟨(some 17), .call 18 [(.t 16)], none⟩
  (.fork ⟨none, .st (some 2) (.t 5) (.t 15), none⟩
  (.fork ⟨none, .st (some 2) (.t 6) (.t 17), none⟩
  .done
  .nope)
  .nope)
  .nope)
  .nope)
  .nope))
  .nope)))
  (.fork ⟨(some 6), .alloc 47 [(.I 0), (.B false)], none⟩
  (.fork ⟨(some 15), .call 17 [(.t 14)], none⟩
  (.fork ⟨(some 16), .ld (some 5) (.t 4), none⟩
  (.fork ⟨(some 17), .call 18 [(.t 16)], none⟩
  (.fork ⟨(some 5), .alloc 47 [(.I 0), (.B false)], none⟩
  (.fork ⟨none, .st (some 2) (.t 5) (.t 15), none⟩
  (.fork ⟨none, .st (some 2) (.t 6) (.t 17), none⟩
  .done
  .nope)
  .nope)
  .nope)
  (.fork ⟨(some 5), .alloc 47 [(.I 0), (.B false)], none⟩
  (.fork ⟨(some 17), .call 18 [(.t 16)], none⟩
  (.fork ⟨none, .st (some 2) (.t 5) (.t 15), none⟩
  (.fork ⟨none, .st (some 2) (.t 6) (.t 17), none⟩
  .done
  .nope)
  .nope)
  .nope)
  .nope))
  (.fork ⟨(some 5), .alloc 47 [(.I 0), (.B false)], none⟩
  (.fork ⟨(some 16), .ld (some 5) (.t 4), none⟩
  (.fork ⟨(some 17), .call 18 [(.t 16)], none⟩
  (.fork ⟨none, .st (some 2) (.t 5) (.t 15), none⟩
  (.fork ⟨none, .st (some 2) (.t 6) (.t 17), none⟩
  .done
  .nope)
  .nope)
  .nope)
  .nope)
  .nope))
  (.fork ⟨(some 16), .ld (some 5) (.t 4), none⟩
  (.fork ⟨(some 15), .call 17 [(.t 14)], none⟩
  (.fork ⟨(some 17), .call 18 [(.t 16)], none⟩
  (.fork ⟨(some 5), .alloc 47 [(.I 0), (.B false)], none⟩
  (.fork ⟨none, .st (some 2) (.t 5) (.t 15), none⟩
  (.fork ⟨none, .st (some 2) (.t 6) (.t 17), none⟩
  .done
  .nope)
  .nope)
  .nope)
  (.fork ⟨(some 5), .alloc 47 [(.I 0), (.B false)], none⟩
  (.fork ⟨(some 17), .call 18 [(.t 16)], none⟩
  (.fork ⟨none, .st (some 2) (.t 5) (.t 15), none⟩
  (.fork ⟨none, .st (some 2) (.t 6) (.t 17), none⟩
  .done
  .nope)
  .nope)
  .nope)
  .nope))
  (.fork ⟨(some 5), .alloc 47 [(.I 0), (.B false)], none⟩
  (.fork ⟨(some 15), .call 17 [(.t 14)], none⟩
  (.fork ⟨(some 17), .call 18 [(.t 16)], none⟩
  (.fork ⟨none, .st (some 2) (.t 5) (.t 15), none⟩
  (.fork ⟨none, .st (some 2) (.t 6) (.t 17), none⟩
  .done
  .nope)
  .nope)
  .nope)
  .nope)
  .nope))
  (.fork ⟨(some 5), .alloc 47 [(.I 0), (.B false)], none⟩
  (.fork ⟨(some 15), .call 17 [(.t 14)], none⟩
  (.fork ⟨(some 16), .ld (some 5) (.t 4), none⟩
  (.fork ⟨(some 17), .call 18 [(.t 16)], none⟩
  (.fork ⟨none, .st (some 2) (.t 5) (.t 15), none⟩
  (.fork ⟨none, .st (some 2) (.t 6) (.t 17), none⟩
  .done
  .nope)
  .nope)
  .nope)
  .nope)
  (.fork ⟨(some 16), .ld (some 5) (.t 4), none⟩
  (.fork ⟨(some 15), .call 17 [(.t 14)], none⟩
  (.fork ⟨(some 17), .call 18 [(.t 16)], none⟩
  (.fork ⟨none, .st (some 2) (.t 5) (.t 15), none⟩
  (.fork ⟨none, .st (some 2) (.t 6) (.t 17), none⟩
  .done
  .nope)
  .nope)
  .nope)
  .nope)
  .nope))
  .nope)))
  .nope))))
  (.fork ⟨(some 16), .ld (some 5) (.t 4), none⟩
  (.fork ⟨(some 14), .ld (some 5) (.t 4), none⟩
  (.fork ⟨(some 15), .call 17 [(.t 14)], none⟩
  (.fork ⟨(some 17), .call 18 [(.t 16)], none⟩
  (.fork ⟨(some 5), .alloc 47 [(.I 0), (.B false)], none⟩
  (.fork ⟨(some 6), .alloc 47 [(.I 0), (.B false)], none⟩
  (.fork ⟨none, .st (some 2) (.t 5) (.t 15), none⟩
  (.fork ⟨none, .st (some 2) (.t 6) (.t 17), none⟩
  .done
  .nope)
  .nope)
  .nope)
  (.fork ⟨(some 6), .alloc 47 [(.I 0), (.B false)], none⟩
  (.fork ⟨(some 5), .alloc 47 [(.I 0), (.B false)], none⟩
  (.fork ⟨none, .st (some 2) (.t 5) (.t 15), none⟩
  (.fork ⟨none, .st (some 2) (.t 6) (.t 17), none⟩
  .done
  .nope)
  .nope)
  .nope)
  .nope))
  (.fork ⟨(some 5), .alloc 47 [(.I 0), (.B false)], none⟩
  (.fork ⟨(some 17), .call 18 [(.t 16)], none⟩
  (.fork ⟨(some 6), .alloc 47 [(.I 0), (.B false)], none⟩
  (.fork ⟨none, .st (some 2) (.t 5) (.t 15), none⟩
  (.fork ⟨none, .st (some 2) (.t 6) (.t 17), none⟩
  .done
  .nope)
  .nope)
  .nope)
  (.fork ⟨(some 6), .alloc 47 [(.I 0), (.B false)], none⟩
  (.fork ⟨(some 17), .call 18 [(.t 16)], none⟩
  (.fork ⟨none, .st (some 2) (.t 5) (.t 15), none⟩
  (.fork ⟨none, .st (some 2) (.t 6) (.t 17), none⟩
  .done
  .nope)
  .nope)
  .nope)
  .nope))
  (.fork ⟨(some 6), .alloc 47 [(.I 0), (.B false)], none⟩
  (.fork ⟨(some 17), .call 18 [(.t 16)], none⟩
  (.fork ⟨(some 5), .alloc 47 [(.I 0), (.B false)], none⟩
  (.fork ⟨none, .st (some 2) (.t 5) (.t 15), none⟩
  (.fork ⟨none, .st (some 2) (.t 6) (.t 17), none⟩
  .done
  .nope)
  .nope)
  .nope)
  (.fork ⟨(some 5), .alloc 47 [(.I 0), (.B false)], none⟩
  (.fork ⟨(some 17), .call 18 [(.t 16)], none⟩
  (.fork ⟨none, .st (some 2) (.t 5) (.t 15), none⟩
  (.fork ⟨none, .st (some 2) (.t 6) (.t 17), none⟩
  .done
  .nope)
  .nope)
  .nope)
  .nope))
  .nope)))
  (.fork ⟨(some 5), .alloc 47 [(.I 0), (.B false)], none⟩
  (.fork ⟨(some 15), .call 17 [(.t 14)], none⟩
  (.fork ⟨(some 17), .call 18 [(.t 16)], none⟩
  (.fork ⟨(some 6), .alloc 47 [(.I 0), (.B false)], none⟩
  (.fork ⟨none, .st (some 2) (.t 5) (.t 15), none⟩
  (.fork ⟨none, .st (some 2) (.t 6) (.t 17), none⟩
  .done
  .nope)
  .nope)
  .nope)
  (.fork ⟨(some 6), .alloc 47 [(.I 0), (.B false)], none⟩
  (.fork ⟨(some 17), .call 18 [(.t 16)], none⟩
  (.fork ⟨none, .st (some 2) (.t 5) (.t 15), none⟩
  (.fork ⟨none, .st (some 2) (.t 6) (.t 17), none⟩
  .done
  .nope)
  .nope)
  .nope)
  .nope))
  (.fork ⟨(some 6), .alloc 47 [(.I 0), (.B false)], none⟩
  (.fork ⟨(some 15), .call 17 [(.t 14)], none⟩
  (.fork ⟨(some 17), .call 18 [(.t 16)], none⟩
  (.fork ⟨none, .st (some 2) (.t 5) (.t 15), none⟩
  (.fork ⟨none, .st (some 2) (.t 6) (.t 17), none⟩
  .done
  .nope)
  .nope)
  .nope)
  .nope)
  .nope))
  (.fork ⟨(some 6), .alloc 47 [(.I 0), (.B false)], none⟩
  (.fork ⟨(some 15), .call 17 [(.t 14)], none⟩
  (.fork ⟨(some 17), .call 18 [(.t 16)], none⟩
  (.fork ⟨(some 5), .alloc 47 [(.I 0), (.B false)], none⟩
  (.fork ⟨none, .st (some 2) (.t 5) (.t 15), none⟩
  (.fork ⟨none, .st (some 2) (.t 6) (.t 17), none⟩
  .done
  .nope)
  .nope)
  .nope)
  (.fork ⟨(some 5), .alloc 47 [(.I 0), (.B false)], none⟩
  (.fork ⟨(some 17), .call 18 [(.t 16)], none⟩
  (.fork ⟨none, .st (some 2) (.t 5) (.t 15), none⟩
  (.fork ⟨none, .st (some 2) (.t 6) (.t 17), none⟩
  .done
  .nope)
  .nope)
  .nope)
  .nope))
  (.fork ⟨(some 5), .alloc 47 [(.I 0), (.B false)], none⟩
  (.fork ⟨(some 15), .call 17 [(.t 14)], none⟩
  (.fork ⟨(some 17), .call 18 [(.t 16)], none⟩
  (.fork ⟨none, .st (some 2) (.t 5) (.t 15), none⟩
  (.fork ⟨none, .st (some 2) (.t 6) (.t 17), none⟩
  .done
  .nope)
  .nope)
  .nope)
  .nope)
  .nope))
  .nope)))
  (.fork ⟨(some 5), .alloc 47 [(.I 0), (.B false)], none⟩
  (.fork ⟨(some 14), .ld (some 5) (.t 4), none⟩
  (.fork ⟨(some 15), .call 17 [(.t 14)], none⟩
  (.fork ⟨(some 17), .call 18 [(.t 16)], none⟩
  (.fork ⟨(some 6), .alloc 47 [(.I 0), (.B false)], none⟩
  (.fork ⟨none, .st (some 2) (.t 5) (.t 15), none⟩
  (.fork ⟨none, .st (some 2) (.t 6) (.t 17), none⟩
  .done
  .nope)
  .nope)
  .nope)
  (.fork ⟨(some 6), .alloc 47 [(.I 0), (.B false)], none⟩
  (.fork ⟨(some 17), .call 18 [(.t 16)], none⟩
  (.fork ⟨none, .st (some 2) (.t 5) (.t 15), none⟩
  (.fork ⟨none, .st (some 2) (.t 6) (.t 17), none⟩
  .done
  .nope)
  .nope)
  .nope)
  .nope))
  (.fork ⟨(some 6), .alloc 47 [(.I 0), (.B false)], none⟩
  (.fork ⟨(some 15), .call 17 [(.t 14)], none⟩
  (.fork ⟨(some 17), .call 18 [(.t 16)], none⟩
  (.fork ⟨none, .st (some 2) (.t 5) (.t 15), none⟩
  (.fork ⟨none, .st (some 2) (.t 6) (.t 17), none⟩
  .done
  .nope)
  .nope)
  .nope)
  .nope)
  .nope))
  (.fork ⟨(some 6), .alloc 47 [(.I 0), (.B false)], none⟩
  (.fork ⟨(some 14), .ld (some 5) (.t 4), none⟩
  (.fork ⟨(some 15), .call 17 [(.t 14)], none⟩
  (.fork ⟨(some 17), .call 18 [(.t 16)], none⟩
  (.fork ⟨none, .st (some 2) (.t 5) (.t 15), none⟩
  (.fork ⟨none, .st (some 2) (.t 6) (.t 17), none⟩
  .done
  .nope)
  .nope)
  .nope)
  .nope)
  .nope)
  .nope))
  (.fork ⟨(some 6), .alloc 47 [(.I 0), (.B false)], none⟩
  (.fork ⟨(some 14), .ld (some 5) (.t 4), none⟩
  (.fork ⟨(some 15), .call 17 [(.t 14)], none⟩
  (.fork ⟨(some 17), .call 18 [(.t 16)], none⟩
  (.fork ⟨(some 5), .alloc 47 [(.I 0), (.B false)], none⟩
  (.fork ⟨none, .st (some 2) (.t 5) (.t 15), none⟩
  (.fork ⟨none, .st (some 2) (.t 6) (.t 17), none⟩
  .done
  .nope)
  .nope)
  .nope)
  (.fork ⟨(some 5), .alloc 47 [(.I 0), (.B false)], none⟩
  (.fork ⟨(some 17), .call 18 [(.t 16)], none⟩
  (.fork ⟨none, .st (some 2) (.t 5) (.t 15), none⟩
  (.fork ⟨none, .st (some 2) (.t 6) (.t 17), none⟩
  .done
  .nope)
  .nope)
  .nope)
  .nope))
  (.fork ⟨(some 5), .alloc 47 [(.I 0), (.B false)], none⟩
  (.fork ⟨(some 15), .call 17 [(.t 14)], none⟩
  (.fork ⟨(some 17), .call 18 [(.t 16)], none⟩
  (.fork ⟨none, .st (some 2) (.t 5) (.t 15), none⟩
  (.fork ⟨none, .st (some 2) (.t 6) (.t 17), none⟩
  .done
  .nope)
  .nope)
  .nope)
  .nope)
  .nope))
  (.fork ⟨(some 5), .alloc 47 [(.I 0), (.B false)], none⟩
  (.fork ⟨(some 14), .ld (some 5) (.t 4), none⟩
  (.fork ⟨(some 15), .call 17 [(.t 14)], none⟩
  (.fork ⟨(some 17), .call 18 [(.t 16)], none⟩
  (.fork ⟨none, .st (some 2) (.t 5) (.t 15), none⟩
  (.fork ⟨none, .st (some 2) (.t 6) (.t 17), none⟩
  .done
  .nope)
  .nope)
  .nope)
  .nope)
  .nope)
  .nope))
  .nope)))
  (.fork ⟨(some 5), .alloc 47 [(.I 0), (.B false)], none⟩
  (.fork ⟨(some 14), .ld (some 5) (.t 4), none⟩
  (.fork ⟨(some 15), .call 17 [(.t 14)], none⟩
  (.fork ⟨(some 16), .ld (some 5) (.t 4), none⟩
  (.fork ⟨(some 17), .call 18 [(.t 16)], none⟩
  (.fork ⟨(some 6), .alloc 47 [(.I 0), (.B false)], none⟩
  (.fork ⟨none, .st (some 2) (.t 5) (.t 15), none⟩
  (.fork ⟨none, .st (some 2) (.t 6) (.t 17), none⟩
  .done
  .nope)
  .nope)
  .nope)
  (.fork ⟨(some 6), .alloc 47 [(.I 0), (.B false)], none⟩
  (.fork ⟨(some 17), .call 18 [(.t 16)], none⟩
  (.fork ⟨none, .st (some 2) (.t 5) (.t 15), none⟩
  (.fork ⟨none, .st (some 2) (.t 6) (.t 17), none⟩
  .done
  .nope)
  .nope)
  .nope)
  .nope))
  (.fork ⟨(some 6), .alloc 47 [(.I 0), (.B false)], none⟩
  (.fork ⟨(some 16), .ld (some 5) (.t 4), none⟩
  (.fork ⟨(some 17), .call 18 [(.t 16)], none⟩
  (.fork ⟨none, .st (some 2) (.t 5) (.t 15), none⟩
  (.fork ⟨none, .st (some 2) (.t 6) (.t 17), none⟩
  .done
  .nope)
  .nope)
  .nope)
  .nope)
  .nope))
  (.fork ⟨(some 16), .ld (some 5) (.t 4), none⟩
  (.fork ⟨(some 15), .call 17 [(.t 14)], none⟩
  (.fork ⟨(some 17), .call 18 [(.t 16)], none⟩
  (.fork ⟨(some 6), .alloc 47 [(.I 0), (.B false)], none⟩
  (.fork ⟨none, .st (some 2) (.t 5) (.t 15), none⟩
  (.fork ⟨none, .st (some 2) (.t 6) (.t 17), none⟩
  .done
  .nope)
  .nope)
  .nope)
  (.fork ⟨(some 6), .alloc 47 [(.I 0), (.B false)], none⟩
  (.fork ⟨(some 17), .call 18 [(.t 16)], none⟩
  (.fork ⟨none, .st (some 2) (.t 5) (.t 15), none⟩
  (.fork ⟨none, .st (some 2) (.t 6) (.t 17), none⟩
  .done
  .nope)
  .nope)
  .nope)
  .nope))
  (.fork ⟨(some 6), .alloc 47 [(.I 0), (.B false)], none⟩
  (.fork ⟨(some 15), .call 17 [(.t 14)], none⟩
  (.fork ⟨(some 17), .call 18 [(.t 16)], none⟩
  (.fork ⟨none, .st (some 2) (.t 5) (.t 15), none⟩
  (.fork ⟨none, .st (some 2) (.t 6) (.t 17), none⟩
  .done
  .nope)
  .nope)
  .nope)
  .nope)
  .nope))
  (.fork ⟨(some 6), .alloc 47 [(.I 0), (.B false)], none⟩
  (.fork ⟨(some 15), .call 17 [(.t 14)], none⟩
  (.fork ⟨(some 16), .ld (some 5) (.t 4), none⟩
  (.fork ⟨(some 17), .call 18 [(.t 16)], none⟩
  (.fork ⟨none, .st (some 2) (.t 5) (.t 15), none⟩
  (.fork ⟨none, .st (some 2) (.t 6) (.t 17), none⟩
  .done
  .nope)
  .nope)
  .nope)
  .nope)
  (.fork ⟨(some 16), .ld (some 5) (.t 4), none⟩
  (.fork ⟨(some 15), .call 17 [(.t 14)], none⟩
  (.fork ⟨(some 17), .call 18 [(.t 16)], none⟩
  (.fork ⟨none, .st (some 2) (.t 5) (.t 15), none⟩
  (.fork ⟨none, .st (some 2) (.t 6) (.t 17), none⟩
  .done
  .nope)
  .nope)
  .nope)
  .nope)
  .nope))
  .nope)))
  (.fork ⟨(some 16), .ld (some 5) (.t 4), none⟩
  (.fork ⟨(some 14), .ld (some 5) (.t 4), none⟩
  (.fork ⟨(some 15), .call 17 [(.t 14)], none⟩
  (.fork ⟨(some 17), .call 18 [(.t 16)], none⟩
  (.fork ⟨(some 6), .alloc 47 [(.I 0), (.B false)], none⟩
  (.fork ⟨none, .st (some 2) (.t 5) (.t 15), none⟩
  (.fork ⟨none, .st (some 2) (.t 6) (.t 17), none⟩
  .done
  .nope)
  .nope)
  .nope)
  (.fork ⟨(some 6), .alloc 47 [(.I 0), (.B false)], none⟩
  (.fork ⟨(some 17), .call 18 [(.t 16)], none⟩
  (.fork ⟨none, .st (some 2) (.t 5) (.t 15), none⟩
  (.fork ⟨none, .st (some 2) (.t 6) (.t 17), none⟩
  .done
  .nope)
  .nope)
  .nope)
  .nope))
  (.fork ⟨(some 6), .alloc 47 [(.I 0), (.B false)], none⟩
  (.fork ⟨(some 15), .call 17 [(.t 14)], none⟩
  (.fork ⟨(some 17), .call 18 [(.t 16)], none⟩
  (.fork ⟨none, .st (some 2) (.t 5) (.t 15), none⟩
  (.fork ⟨none, .st (some 2) (.t 6) (.t 17), none⟩
  .done
  .nope)
  .nope)
  .nope)
  .nope)
  .nope))
  (.fork ⟨(some 6), .alloc 47 [(.I 0), (.B false)], none⟩
  (.fork ⟨(some 14), .ld (some 5) (.t 4), none⟩
  (.fork ⟨(some 15), .call 17 [(.t 14)], none⟩
  (.fork ⟨(some 17), .call 18 [(.t 16)], none⟩
  (.fork ⟨none, .st (some 2) (.t 5) (.t 15), none⟩
  (.fork ⟨none, .st (some 2) (.t 6) (.t 17), none⟩
  .done
  .nope)
  .nope)
  .nope)
  .nope)
  .nope)
  .nope))
  (.fork ⟨(some 6), .alloc 47 [(.I 0), (.B false)], none⟩
  (.fork ⟨(some 14), .ld (some 5) (.t 4), none⟩
  (.fork ⟨(some 15), .call 17 [(.t 14)], none⟩
  (.fork ⟨(some 16), .ld (some 5) (.t 4), none⟩
  (.fork ⟨(some 17), .call 18 [(.t 16)], none⟩
  (.fork ⟨none, .st (some 2) (.t 5) (.t 15), none⟩
  (.fork ⟨none, .st (some 2) (.t 6) (.t 17), none⟩
  .done
  .nope)
  .nope)
  .nope)
  .nope)
  (.fork ⟨(some 16), .ld (some 5) (.t 4), none⟩
  (.fork ⟨(some 15), .call 17 [(.t 14)], none⟩
  (.fork ⟨(some 17), .call 18 [(.t 16)], none⟩
  (.fork ⟨none, .st (some 2) (.t 5) (.t 15), none⟩
  (.fork ⟨none, .st (some 2) (.t 6) (.t 17), none⟩
  .done
  .nope)
  .nope)
  .nope)
  .nope)
  .nope))
  (.fork ⟨(some 16), .ld (some 5) (.t 4), none⟩
  (.fork ⟨(some 14), .ld (some 5) (.t 4), none⟩
  (.fork ⟨(some 15), .call 17 [(.t 14)], none⟩
  (.fork ⟨(some 17), .call 18 [(.t 16)], none⟩
  (.fork ⟨none, .st (some 2) (.t 5) (.t 15), none⟩
  (.fork ⟨none, .st (some 2) (.t 6) (.t 17), none⟩
  .done
  .nope)
  .nope)
  .nope)
  .nope)
  .nope)
  .nope))
  .nope)))
  (.fork ⟨(some 6), .alloc 47 [(.I 0), (.B false)], none⟩
  (.fork ⟨(some 14), .ld (some 5) (.t 4), none⟩
  (.fork ⟨(some 15), .call 17 [(.t 14)], none⟩
  (.fork ⟨(some 16), .ld (some 5) (.t 4), none⟩
  (.fork ⟨(some 17), .call 18 [(.t 16)], none⟩
  (.fork ⟨(some 5), .alloc 47 [(.I 0), (.B false)], none⟩
  (.fork ⟨none, .st (some 2) (.t 5) (.t 15), none⟩
  (.fork ⟨none, .st (some 2) (.t 6) (.t 17), none⟩
  .done
  .nope)
  .nope)
  .nope)
  (.fork ⟨(some 5), .alloc 47 [(.I 0), (.B false)], none⟩
  (.fork ⟨(some 17), .call 18 [(.t 16)], none⟩
  (.fork ⟨none, .st (some 2) (.t 5) (.t 15), none⟩
  (.fork ⟨none, .st (some 2) (.t 6) (.t 17), none⟩
  .done
  .nope)
  .nope)
  .nope)
  .nope))
  (.fork ⟨(some 5), .alloc 47 [(.I 0), (.B false)], none⟩
  (.fork ⟨(some 16), .ld (some 5) (.t 4), none⟩
  (.fork ⟨(some 17), .call 18 [(.t 16)], none⟩
  (.fork ⟨none, .st (some 2) (.t 5) (.t 15), none⟩
  (.fork ⟨none, .st (some 2) (.t 6) (.t 17), none⟩
  .done
  .nope)
  .nope)
  .nope)
  .nope)
  .nope))
  (.fork ⟨(some 16), .ld (some 5) (.t 4), none⟩
  (.fork ⟨(some 15), .call 17 [(.t 14)], none⟩
  (.fork ⟨(some 17), .call 18 [(.t 16)], none⟩
  (.fork ⟨(some 5), .alloc 47 [(.I 0), (.B false)], none⟩
  (.fork ⟨none, .st (some 2) (.t 5) (.t 15), none⟩
  (.fork ⟨none, .st (some 2) (.t 6) (.t 17), none⟩
  .done
  .nope)
  .nope)
  .nope)
  (.fork ⟨(some 5), .alloc 47 [(.I 0), (.B false)], none⟩
  (.fork ⟨(some 17), .call 18 [(.t 16)], none⟩
  (.fork ⟨none, .st (some 2) (.t 5) (.t 15), none⟩
  (.fork ⟨none, .st (some 2) (.t 6) (.t 17), none⟩
  .done
  .nope)
  .nope)
  .nope)
  .nope))
  (.fork ⟨(some 5), .alloc 47 [(.I 0), (.B false)], none⟩
  (.fork ⟨(some 15), .call 17 [(.t 14)], none⟩
  (.fork ⟨(some 17), .call 18 [(.t 16)], none⟩
  (.fork ⟨none, .st (some 2) (.t 5) (.t 15), none⟩
  (.fork ⟨none, .st (some 2) (.t 6) (.t 17), none⟩
  .done
  .nope)
  .nope)
  .nope)
  .nope)
  .nope))
  (.fork ⟨(some 5), .alloc 47 [(.I 0), (.B false)], none⟩
  (.fork ⟨(some 15), .call 17 [(.t 14)], none⟩
  (.fork ⟨(some 16), .ld (some 5) (.t 4), none⟩
  (.fork ⟨(some 17), .call 18 [(.t 16)], none⟩
  (.fork ⟨none, .st (some 2) (.t 5) (.t 15), none⟩
  (.fork ⟨none, .st (some 2) (.t 6) (.t 17), none⟩
  .done
  .nope)
  .nope)
  .nope)
  .nope)
  (.fork ⟨(some 16), .ld (some 5) (.t 4), none⟩
  (.fork ⟨(some 15), .call 17 [(.t 14)], none⟩
  (.fork ⟨(some 17), .call 18 [(.t 16)], none⟩
  (.fork ⟨none, .st (some 2) (.t 5) (.t 15), none⟩
  (.fork ⟨none, .st (some 2) (.t 6) (.t 17), none⟩
  .done
  .nope)
  .nope)
  .nope)
  .nope)
  .nope))
  .nope)))
  (.fork ⟨(some 16), .ld (some 5) (.t 4), none⟩
  (.fork ⟨(some 14), .ld (some 5) (.t 4), none⟩
  (.fork ⟨(some 15), .call 17 [(.t 14)], none⟩
  (.fork ⟨(some 17), .call 18 [(.t 16)], none⟩
  (.fork ⟨(some 5), .alloc 47 [(.I 0), (.B false)], none⟩
  (.fork ⟨none, .st (some 2) (.t 5) (.t 15), none⟩
  (.fork ⟨none, .st (some 2) (.t 6) (.t 17), none⟩
  .done
  .nope)
  .nope)
  .nope)
  (.fork ⟨(some 5), .alloc 47 [(.I 0), (.B false)], none⟩
  (.fork ⟨(some 17), .call 18 [(.t 16)], none⟩
  (.fork ⟨none, .st (some 2) (.t 5) (.t 15), none⟩
  (.fork ⟨none, .st (some 2) (.t 6) (.t 17), none⟩
  .done
  .nope)
  .nope)
  .nope)
  .nope))
  (.fork ⟨(some 5), .alloc 47 [(.I 0), (.B false)], none⟩
  (.fork ⟨(some 15), .call 17 [(.t 14)], none⟩
  (.fork ⟨(some 17), .call 18 [(.t 16)], none⟩
  (.fork ⟨none, .st (some 2) (.t 5) (.t 15), none⟩
  (.fork ⟨none, .st (some 2) (.t 6) (.t 17), none⟩
  .done
  .nope)
  .nope)
  .nope)
  .nope)
  .nope))
  (.fork ⟨(some 5), .alloc 47 [(.I 0), (.B false)], none⟩
  (.fork ⟨(some 14), .ld (some 5) (.t 4), none⟩
  (.fork ⟨(some 15), .call 17 [(.t 14)], none⟩
  (.fork ⟨(some 17), .call 18 [(.t 16)], none⟩
  (.fork ⟨none, .st (some 2) (.t 5) (.t 15), none⟩
  (.fork ⟨none, .st (some 2) (.t 6) (.t 17), none⟩
  .done
  .nope)
  .nope)
  .nope)
  .nope)
  .nope)
  .nope))
  (.fork ⟨(some 5), .alloc 47 [(.I 0), (.B false)], none⟩
  (.fork ⟨(some 14), .ld (some 5) (.t 4), none⟩
  (.fork ⟨(some 15), .call 17 [(.t 14)], none⟩
  (.fork ⟨(some 16), .ld (some 5) (.t 4), none⟩
  (.fork ⟨(some 17), .call 18 [(.t 16)], none⟩
  (.fork ⟨none, .st (some 2) (.t 5) (.t 15), none⟩
  (.fork ⟨none, .st (some 2) (.t 6) (.t 17), none⟩
  .done
  .nope)
  .nope)
  .nope)
  .nope)
  (.fork ⟨(some 16), .ld (some 5) (.t 4), none⟩
  (.fork ⟨(some 15), .call 17 [(.t 14)], none⟩
  (.fork ⟨(some 17), .call 18 [(.t 16)], none⟩
  (.fork ⟨none, .st (some 2) (.t 5) (.t 15), none⟩
  (.fork ⟨none, .st (some 2) (.t 6) (.t 17), none⟩
  .done
  .nope)
  .nope)
  .nope)
  .nope)
  .nope))
  (.fork ⟨(some 16), .ld (some 5) (.t 4), none⟩
  (.fork ⟨(some 14), .ld (some 5) (.t 4), none⟩
  (.fork ⟨(some 15), .call 17 [(.t 14)], none⟩
  (.fork ⟨(some 17), .call 18 [(.t 16)], none⟩
  (.fork ⟨none, .st (some 2) (.t 5) (.t 15), none⟩
  (.fork ⟨none, .st (some 2) (.t 6) (.t 17), none⟩
  .done
  .nope)
  .nope)
  .nope)
  .nope)
  .nope)
  .nope))
  .nope)))
  .nope))))
abbrev c16_7 : AC := .regD [(⟨(some 18), .mv (.t 3), none⟩, [3]),
  (⟨(some 19), .bin .gtr (.t 18) (.k (.I 0)), none⟩, [18]),
  (⟨(some 20), .mv (.t 19), none⟩, [19]),
  (⟨(some 21), .fad 0 (.t 4), (some (20, true))⟩, [4, 20]),
  (⟨(some 22), .ld none (.t 21), (some (20, true))⟩, [21, 20]),
  (⟨(some 23), .mv (.t 0), (some (20, true))⟩, [0, 20]),
  (⟨(some 24), .mv (.t 3), (some (20, true))⟩, [3, 20]),
  (⟨(some 25), .bin .sub (.t 24) (.k (.I 1)), (some (20, true))⟩, [24, 20]),
  (⟨(some 26), .iad 5 (.t 23) (.t 25), (some (20, true))⟩, [23, 25, 20]),
  (⟨(some 27), .fad 0 (.t 26), (some (20, true))⟩, [26, 20]),
  (⟨(some 28), .ld none (.t 27), (some (20, true))⟩, [27, 20]),
  (⟨(some 29), .bin .leq (.t 22) (.t 28), (some (20, true))⟩, [22, 28, 20]),
  (⟨(some 30), .pick (.t 20) (.t 29) (.k (.B false)), none⟩, [20, 29]),
  (⟨(some 31), .mv (.t 30), none⟩, [30]),
  (⟨(some 32), .ld (some 2) (.t 5), (some (31, false))⟩, [5, 31]),
  (⟨(some 33), .ld (some 2) (.t 6), (some (31, false))⟩, [6, 31]),
  (⟨(some 34), .eqs false [false, true] (.t 32) (.t 33), (some (31, false))⟩, [32, 33, 31]),
  (⟨(some 35), .pick (.t 31) (.k (.B true)) (.t 34), none⟩, [31, 34]),
  (⟨(some 36), .mv (.t 35), none⟩, [35]),
  (⟨(some 37), .fad 1 (.t 5), (some (36, false))⟩, [5, 36]),
  (⟨(some 38), .ld none (.t 37), (some (36, false))⟩, [37, 36]),
  (⟨(some 39), .not (.t 38), (some (36, false))⟩, [38, 36]),
  (⟨(some 40), .mv (.t 39), (some (36, false))⟩, [39, 36]),
  (⟨(some 41), .fad 0 (.t 5), (some (40, true))⟩, [5, 40]),
  (⟨(some 42), .ld none (.t 41), (some (40, true))⟩, [41, 40]),
  (⟨(some 43), .bin .neq (.t 42) (.k (.I 0)), (some (40, true))⟩, [42, 40]),
  (⟨(some 44), .pick (.t 40) (.t 43) (.k (.B false)), (some (36, false))⟩, [40, 43, 36]),
  (⟨(some 45), .pick (.t 36) (.k (.B true)) (.t 44), none⟩, [36, 44]),
  (⟨(some 46), .mv (.t 45), none⟩, [45]),
  (⟨(some 47), .fad 1 (.t 6), (some (46, false))⟩, [6, 46]),
  (⟨(some 48), .ld none (.t 47), (some (46, false))⟩, [47, 46]),
  (⟨(some 49), .not (.t 48), (some (46, false))⟩, [48, 46]),
  (⟨(some 50), .mv (.t 49), (some (46, false))⟩, [49, 46]),
  (⟨(some 51), .fad 0 (.t 6), (some (50, true))⟩, [6, 50]),
  (⟨(some 52), .ld none (.t 51), (some (50, true))⟩, [51, 50]),
  (⟨(some 53), .bin .neq (.t 52) (.k (.I 0)), (some (50, true))⟩, [52, 50]),
  (⟨(some 54), .pick (.t 50) (.t 53) (.k (.B false)), (some (46, false))⟩, [50, 53, 46]),
  (⟨(some 55), .pick (.t 46) (.k (.B true)) (.t 54), none⟩, [46, 54])]
abbrev c16_8 : AC := .reg [⟨(some 2), .mv (.k (.B false)), none⟩] false
abbrev c16_9 : AC := .seq c16_8 .ret
abbrev c16_10 : AC := .cond (.t 55) c16_9 .skip
abbrev c16_11 : AC := .seq c16_7 c16_10
abbrev c16_12 : AC := .seq c16_6 c16_11
abbrev c16_13 : AC := .seq c16_5 c16_12
abbrev c16_14 : AC := .block 1 c16_13
abbrev c16_15 : AC := .reg [⟨(some 56), .bin .add (.t 9) (.k (.I 1)), none⟩,
  ⟨(some 9), .mv (.t 56), none⟩] false
abbrev c16_16 : AC := .seq c16_14 c16_15
abbrev c16_17 : AC := .seq c16_4 c16_16
abbrev c16_18 : AC := .seq c16_3 c16_17
abbrev c16_19 : AC := .loop c16_18
abbrev c16_20 : AC := .block 0 c16_19
abbrev c16_21 : AC := .seq c16_2 c16_20
abbrev c16_22 : AC := .reg [⟨(some 57), .mv (.t 0), none⟩,
  ⟨(some 58), .len (.t 57), none⟩,
  ⟨(some 59), .bin .leq (.t 58) (.k (.I 64)), none⟩,
  ⟨(some 2), .mv (.t 59), none⟩] false
abbrev c16_23 : AC := .seq c16_22 .ret
abbrev c16_24 : AC := .seq c16_21 c16_23
abbrev c16_25 : AC := .seq c16_1 c16_24
abbrev c16 : AC := c16_25
theorem code16 : fnCode Try.prog 16 = some (c16, [2], 60) := by kernel_rfl
/- coinage/opinion.Apply -/
abbrev c8_1 : AC := .reg [⟨(some 4), .mv (.k (.c .nil)), none⟩,
  ⟨(some 5), .mv (.k (.I 0)), none⟩] false
abbrev c8_2 : AC := .reg [⟨(some 10), .mv (.t 0), none⟩,
  ⟨(some 11), .call 11 [(.t 10)], none⟩,
  ⟨(some 12), .not (.t 11), none⟩,
  ⟨(some 13), .mv (.t 12), none⟩,
  ⟨(some 14), .mv (.t 1), (some (13, false))⟩,
  ⟨(some 15), .call 16 [(.t 14)], (some (13, false))⟩,
  ⟨(some 16), .not (.t 15), (some (13, false))⟩,
  ⟨(some 17), .pick (.t 13) (.k (.B true)) (.t 16), none⟩] false
abbrev c8_3 : AC := .reg [⟨(some 4), .mv (.k (.c .nil)), none⟩,
  ⟨(some 5), .mv (.k (.I 1)), none⟩] false
abbrev c8_4 : AC := .seq c8_3 .ret
abbrev c8_5 : AC := .cond (.t 17) c8_4 .skip
abbrev c8_6 : AC := .seq c8_2 c8_5
abbrev c8_7 : AC := .reg [⟨(some 18), .mv (.t 0), none⟩,
  ⟨(some 19), .call 12 [(.t 18)], none⟩,
  ⟨(some 6), .mv (.t 19), none⟩] false
abbrev c8_8 : AC := .reg [⟨(some 20), .mv (.t 1), none⟩,
  ⟨(some 21), .len (.t 20), none⟩,
  ⟨(some 22), .mv (.k (.I 0)), none⟩] false
abbrev c8_9 : AC := .reg [⟨(some 23), .bin .lss (.t 22) (.t 21), none⟩] false
abbrev c8_10 : AC := .cond (.t 23) .skip (.exit 0)
abbrev c8_11 : AC := .reg [⟨(some 24), .iad 5 (.t 20) (.t 22), none⟩,
  ⟨(some 25), .ld (some 5) (.t 24), none⟩,
  ⟨(some 8), .alloc 37 [(.I 0), (.I 0), (.I 0), (.B false), (.B false)], none⟩,
  ⟨none, .st (some 5) (.t 8) (.t 25), none⟩] false
abbrev c8_12 : AC := .regD [(⟨(some 26), .mv (.t 6), none⟩, [6]),
  (⟨(some 27), .fad 0 (.t 8), none⟩, [8]),
  (⟨(some 28), .ld none (.t 27), none⟩, [27]),
  (⟨(some 29), .look (.one .i64) (.inr [(.sc (.int .i64 0)), (.sc (.bool false))]) false (.t 26) (.t 28), none⟩, [26, 28]),
  (⟨(some 30), .ld (some 5) (.t 8), none⟩, [8]),
  (⟨(some 31), .call 17 [(.t 30)], none⟩, [30]),
  (⟨(some 32), .eqs true [false, true] (.t 29) (.t 31), none⟩, [29, 31])]
abbrev c8_13 : AC := .reg [⟨(some 4), .mv (.k (.c .nil)), none⟩,
  ⟨(some 5), .mv (.k (.I 10)), none⟩] false
abbrev c8_14 : AC := .seq c8_13 .ret
abbrev c8_15 : AC := .cond (.t 32) c8_14 .skip
abbrev c8_16 : AC := .seq c8_12 c8_15
abbrev c8_17 : AC := .regX (.first ⟨(some 33), .mv (.t 6), none⟩
  (.first ⟨(some 34), .fad 0 (.t 8), none⟩
  (.fork ⟨(some 35), .ld none (.t 34), none⟩
  (.fork ⟨(some 36), .ld (some 5) (.t 8), none⟩
  (.fork ⟨(some 37), .call 18 [(.t 36)], none⟩
  (.fork ⟨none, .mset (.one .i64) (.t 33) (.t 35) (.t 37), none⟩
  .done
  .nope)
  .nope)
  .nope)
  (.fork ⟨(some 36), .ld (some 5) (.t 8), none⟩
  (.fork ⟨(some 35), .ld none (.t 34), none⟩
  (.fork ⟨(some 37), .call 18 [(.t 36)], none⟩
  (.fork ⟨none, .mset (.one .i64) (.t 33) (.t 35) (.t 37), none⟩
  .done
  .nope)
  .nope)
  (.fork ⟨(some 37), .call 18 [(.t 36)], none⟩
  (.fork ⟨(some 35), .ld none (.t 34), none⟩
  (.fork ⟨none, .mset (.one .i64) (.t 33) (.t 35) (.t 37), none⟩
  .done
  .nope)
  .nope)
  .nope))
  .nope))))
abbrev c8_18 : AC := .seq c8_16 c8_17
abbrev c8_19 : AC := .seq c8_11 c8_18
abbrev c8_20 : AC := .block 1 c8_19
abbrev c8_21 : AC := .reg [⟨(some 38), .bin .add (.t 22) (.k (.I 1)), none⟩,
  ⟨(some 22), .mv (.t 38), none⟩] false
abbrev c8_22 : AC := .seq c8_20 c8_21
abbrev c8_23 : AC := .seq c8_10 c8_22
abbrev c8_24 : AC := .seq c8_9 c8_23
abbrev c8_25 : AC := .loop c8_24
abbrev c8_26 : AC := .block 0 c8_25
abbrev c8_27 : AC := .seq c8_8 c8_26
abbrev c8_28 : AC := .reg [⟨(some 39), .mv (.t 6), none⟩,
  ⟨(some 40), .call 14 [(.t 39)], none⟩,
  ⟨(some 9), .mv (.t 40), none⟩] false
abbrev c8_29 : AC := .reg [⟨(some 41), .mv (.t 9), none⟩,
  ⟨(some 42), .len (.t 41), none⟩,
  ⟨(some 43), .bin .gtr (.t 42) (.k (.I 64)), none⟩] false
abbrev c8_30 : AC := .reg [⟨(some 4), .mv (.k (.c .nil)), none⟩,
  ⟨(some 5), .mv (.k (.I 6)), none⟩] false
abbrev c8_31 : AC := .seq c8_30 .ret
abbrev c8_32 : AC := .cond (.t 43) c8_31 .skip
abbrev c8_33 : AC := .seq c8_29 c8_32
abbrev c8_34 : AC := .reg [⟨(some 44), .mv (.t 9), none⟩,
  ⟨(some 4), .mv (.t 44), none⟩,
  ⟨(some 5), .mv (.k (.I 0)), none⟩] false
abbrev c8_35 : AC := .seq c8_34 .ret
abbrev c8_36 : AC := .seq c8_33 c8_35
abbrev c8_37 : AC := .seq c8_28 c8_36
abbrev c8_38 : AC := .seq c8_27 c8_37
abbrev c8_39 : AC := .seq c8_7 c8_38
abbrev c8_40 : AC := .seq c8_6 c8_39
abbrev c8_41 : AC := .seq c8_1 c8_40
abbrev c8 : AC := c8_41
theorem code8 : fnCode Try.prog 8 = some (c8, [4, 5], 45) := by kernel_rfl
/- coinage/opinion.Compose -/
abbrev c9_1 : AC := .reg [⟨(some 4), .mv (.k (.c .nil)), none⟩,
  ⟨(some 5), .mv (.k (.I 0)), none⟩] false
abbrev c9_2 : AC := .reg [⟨(some 16), .mv (.t 0), none⟩,
  ⟨(some 17), .call 16 [(.t 16)], none⟩,
  ⟨(some 18), .not (.t 17), none⟩,
  ⟨(some 19), .mv (.t 18), none⟩,
  ⟨(some 20), .mv (.t 1), (some (19, false))⟩,
  ⟨(some 21), .call 16 [(.t 20)], (some (19, false))⟩,
  ⟨(some 22), .not (.t 21), (some (19, false))⟩,
  ⟨(some 23), .pick (.t 19) (.k (.B true)) (.t 22), none⟩] false
abbrev c9_3 : AC := .reg [⟨(some 4), .mv (.k (.c .nil)), none⟩,
  ⟨(some 5), .mv (.k (.I 1)), none⟩] false
abbrev c9_4 : AC := .seq c9_3 .ret
abbrev c9_5 : AC := .cond (.t 23) c9_4 .skip
abbrev c9_6 : AC := .seq c9_2 c9_5
abbrev c9_7 : AC := .reg [⟨(some 24), .mkmap (.one .i64), none⟩,
  ⟨(some 6), .mv (.t 24), none⟩] false
abbrev c9_8 : AC := .reg [⟨(some 25), .mv (.t 0), none⟩,
  ⟨(some 26), .len (.t 25), none⟩,
  ⟨(some 27), .mv (.k (.I 0)), none⟩] false
abbrev c9_9 : AC := .reg [⟨(some 28), .bin .lss (.t 27) (.t 26), none⟩] false
abbrev c9_10 : AC := .cond (.t 28) .skip (.exit 0)
abbrev c9_11 : AC := .reg [⟨(some 29), .iad 5 (.t 25) (.t 27), none⟩,
  ⟨(some 30), .ld (some 5) (.t 29), none⟩,
  ⟨(some 8), .alloc 37 [(.I 0), (.I 0), (.I 0), (.B false), (.B false)], none⟩,
  ⟨none, .st (some 5) (.t 8) (.t 30), none⟩] false
abbrev c9_12 : AC := .reg [⟨(some 31), .mv (.t 6), none⟩,
  ⟨(some 32), .fad 0 (.t 8), none⟩,
  ⟨(some 33), .ld none (.t 32), none⟩,
  ⟨(some 34), .ld (some 5) (.t 8), none⟩,
  ⟨none, .mset (.one .i64) (.t 31) (.t 33) (.t 34), none⟩] false
abbrev c9_13 : AC := .seq c9_11 c9_12
abbrev c9_14 : AC := .block 1 c9_13
abbrev c9_15 : AC := .reg [⟨(some 35), .bin .add (.t 27) (.k (.I 1)), none⟩,
  ⟨(some 27), .mv (.t 35), none⟩] false
abbrev c9_16 : AC := .seq c9_14 c9_15
abbrev c9_17 : AC := .seq c9_10 c9_16
abbrev c9_18 : AC := .seq c9_9 c9_17
abbrev c9_19 : AC := .loop c9_18
abbrev c9_20 : AC := .block 0 c9_19
abbrev c9_21 : AC := .seq c9_8 c9_20
abbrev c9_22 : AC := .reg [⟨(some 36), .mv (.t 1), none⟩,
  ⟨(some 37), .len (.t 36), none⟩,
  ⟨(some 38), .mv (.k (.I 0)), none⟩] false
abbrev c9_23 : AC := .reg [⟨(some 39), .bin .lss (.t 38) (.t 37), none⟩] false
abbrev c9_24 : AC := .cond (.t 39) .skip (.exit 2)
abbrev c9_25 : AC := .reg [⟨(some 40), .iad 5 (.t 36) (.t 38), none⟩,
  ⟨(some 41), .ld (some 5) (.t 40), none⟩,
  ⟨(some 10), .alloc 37 [(.I 0), (.I 0), (.I 0), (.B false), (.B false)], none⟩,
  ⟨none, .st (some 5) (.t 10) (.t 41), none⟩] false
abbrev c9_26 : AC := .reg [⟨(some 43), .mv (.t 6), none⟩,
  ⟨(some 44), .fad 0 (.t 10), none⟩,
  ⟨(some 45), .ld none (.t 44), none⟩,
  ⟨(some 46), .look (.one .i64) (.inr [(.sc (.int .i64 0)), (.sc (.int .i64 0)), (.sc (.int .i64 0)), (.sc (.bool false)), (.sc (.bool false))]) true (.t 43) (.t 45), none⟩,
  ⟨(some 42), .mv (.t 46), none⟩,
  ⟨(some 47), .ext (.t 42) 0, none⟩,
  ⟨(some 48), .ext (.t 42) 1, none⟩,
  ⟨(some 11), .alloc 37 [(.I 0), (.I 0), (.I 0), (.B false), (.B false)], none⟩,
  ⟨none, .st (some 5) (.t 11) (.t 47), none⟩,
  ⟨(some 12), .mv (.t 48), none⟩] false
abbrev c9_27 : AC := .reg [⟨(some 60), .mv (.t 12), none⟩,
  ⟨(some 61), .not (.t 60), none⟩,
  ⟨(some 59), .mv (.t 61), none⟩] false
abbrev c9_28 : AC := .reg [⟨(some 62), .mv (.t 6), none⟩,
  ⟨(some 63), .fad 0 (.t 10), none⟩,
  ⟨(some 64), .ld none (.t 63), none⟩,
  ⟨(some 65), .ld (some 5) (.t 10), none⟩,
  ⟨none, .mset (.one .i64) (.t 62) (.t 64) (.t 65), none⟩] false
abbrev c9_29 : AC := .regD [(⟨(some 67), .ld (some 5) (.t 11), none⟩, [11]),
  (⟨(some 68), .call 18 [(.t 67)], none⟩, [67]),
  (⟨(some 69), .ld (some 5) (.t 10), none⟩, [10]),
  (⟨(some 70), .call 17 [(.t 69)], none⟩, [69]),
  (⟨(some 71), .eqs true [false, true] (.t 68) (.t 70), none⟩, [68, 70]),
  (⟨(some 66), .mv (.t 71), none⟩, [71])]
abbrev c9_30 : AC := .reg [⟨(some 4), .mv (.k (.c .nil)), none⟩,
  ⟨(some 5), .mv (.k (.I 10)), none⟩] false
abbrev c9_31 : AC := .seq c9_30 .ret
abbrev c9_32 : AC := .regD [(⟨(some 73), .ld (some 5) (.t 11), none⟩, [11]),
  (⟨(some 74), .call 17 [(.t 73)], none⟩, [73]),
  (⟨(some 75), .ld (some 5) (.t 10), none⟩, [10]),
  (⟨(some 76), .call 18 [(.t 75)], none⟩, [75]),
  (⟨(some 77), .eqs false [false, true] (.t 74) (.t 76), none⟩, [74, 76]),
  (⟨(some 72), .mv (.t 77), none⟩, [77])]
abbrev c9_33 : AC := .reg [⟨(some 78), .mv (.t 6), none⟩,
  ⟨(some 79), .fad 0 (.t 10), none⟩,
  ⟨(some 80), .ld none (.t 79), none⟩,
  ⟨none, .mdel (.one .i64) (.t 78) (.t 80), none⟩] false
abbrev c9_34 : AC := .regX (.first ⟨(some 49), .mv (.t 6), none⟩
  (.first ⟨(some 50), .fad 0 (.t 10), none⟩
  (.first ⟨(some 52), .fad 0 (.t 10), none⟩
  (.fork ⟨(some 51), .ld none (.t 50), none⟩
  (.fork ⟨(some 53), .ld none (.t 52), none⟩
  (.fork ⟨(some 54), .ld (some 5) (.t 11), none⟩
  (.fork ⟨(some 55), .call 17 [(.t 54)], none⟩
  (.fork ⟨(some 56), .ld (some 5) (.t 10), none⟩
  (.fork ⟨(some 57), .call 18 [(.t 56)], none⟩
  (.fork ⟨(some 58), .call 15 [(.t 53), (.t 55), (.t 57)], none⟩
  (.fork ⟨none, .mset (.one .i64) (.t 49) (.t 51) (.t 58), none⟩
  .done
  .nope)
  .nope)
  .nope)
  .nope)
  (.fork ⟨(some 56), .ld (some 5) (.t 10), none⟩
  (.fork ⟨(some 55), .call 17 [(.t 54)], none⟩
  (.fork ⟨(some 57), .call 18 [(.t 56)], none⟩
  (.fork ⟨(some 58), .call 15 [(.t 53), (.t 55), (.t 57)], none⟩
  (.fork ⟨none, .mset (.one .i64) (.t 49) (.t 51) (.t 58), none⟩
  .done
  .nope)
  .nope)
  .nope)
  .nope)
  .nope))
  (.fork ⟨(some 56), .ld (some 5) (.t 10), none⟩
  (.fork ⟨(some 54), .ld (some 5) (.t 11), none⟩
  (.fork ⟨(some 55), .call 17 [(.t 54)], none⟩
  (.fork ⟨(some 57), .call 18 [(.t 56)], none⟩
  (.fork ⟨(some 58), .call 15 [(.t 53), (.t 55), (.t 57)], none⟩
  (.fork ⟨none, .mset (.one .i64) (.t 49) (.t 51) (.t 58), none⟩
  .done
  .nope)
  .nope)
  .nope)
  .nope)
  .nope)
  .nope))
  (.fork ⟨(some 54), .ld (some 5) (.t 11), none⟩
  (.fork ⟨(some 53), .ld none (.t 52), none⟩
  (.fork ⟨(some 55), .call 17 [(.t 54)], none⟩
  (.fork ⟨(some 56), .ld (some 5) (.t 10), none⟩
  (.fork ⟨(some 57), .call 18 [(.t 56)], none⟩
  (.fork ⟨(some 58), .call 15 [(.t 53), (.t 55), (.t 57)], none⟩
  (.fork ⟨none, .mset (.one .i64) (.t 49) (.t 51) (.t 58), none⟩
  .done
  .nope)
  .nope)
  .nope)
  .nope)
  (.fork ⟨(some 56), .ld (some 5) (.t 10), none⟩
  (.fork ⟨(some 55), .call 17 [(.t 54)], none⟩
  (.fork ⟨(some 57), .call 18 [(.t 56)], none⟩
  (.fork ⟨(some 58), .call 15 [(.t 53), (.t 55), (.t 57)], none⟩
  (.fork ⟨none, .mset (.one .i64) (.t 49) (.t 51) (.t 58), none⟩
  .done
  .nope)
  .nope)
  .nope)
  .nope)
  .nope))
  (.fork ⟨(some 55), .call 17 [(.t 54)], none⟩
  (.fork ⟨(some 53), .ld none (.t 52), none⟩
  (.fork ⟨(some 56), .ld (some 5) (.t 10), none⟩
  (.fork ⟨(some 57), .call 18 [(.t 56)], none⟩
  (.fork ⟨(some 58), .call 15 [(.t 53), (.t 55), (.t 57)], none⟩
  (.fork ⟨none, .mset (.one .i64) (.t 49) (.t 51) (.t 58), none⟩
  .done
  .nope)
  .nope)
  .nope)
  .nope)
  (.fork ⟨(some 56), .ld (some 5) (.t 10), none⟩
  (.fork ⟨(some 53), .ld none (.t 52), none⟩
  (.fork ⟨(some 57), .call 18 [(.t 56)], none⟩
  (.fork ⟨(some 58), .call 15 [(.t 53), (.t 55), (.t 57)], none⟩
  (.fork ⟨none, .mset (.one .i64) (.t 49) (.t 51) (.t 58), none⟩
  .done
  .nope)
  .nope)
  .nope)
  (.fork ⟨(some 57), .call 18 [(.t 56)], none⟩
  (.fork ⟨(some 53), .ld none (.t 52), none⟩
  (.fork ⟨(some 58), .call 15 [(.t 53), (.t 55), (.t 57)], none⟩
  (.fork ⟨none, .mset (.one .i64) (.t 49) (.t 51) (.t 58), none⟩
  .done
  .nope)
  .nope)
  .nope)
  .nope))
  .nope))
  (.fork ⟨(some 56), .ld (some 5) (.t 10), none⟩
  (.fork ⟨(some 53), .ld none (.t 52), none⟩
  (.fork ⟨(some 55), .call 17 [(.t 54)], none⟩
  (.fork ⟨(some 57), .call 18 [(.t 56)], none⟩
  (.fork ⟨(some 58), .call 15 [(.t 53), (.t 55), (.t 57)], none⟩
  (.fork ⟨none, .mset (.one .i64) (.t 49) (.t 51) (.t 58), none⟩
  .done
  .nope)
  .nope)
  .nope)
  .nope)
  (.fork ⟨(some 55), .call 17 [(.t 54)], none⟩
  (.fork ⟨(some 53), .ld none (.t 52), none⟩
  (.fork ⟨(some 57), .call 18 [(.t 56)], none⟩
  (.fork ⟨(some 58), .call 15 [(.t 53), (.t 55), (.t 57)], none⟩
  (.fork ⟨none, .mset (.one .i64) (.t 49) (.t 51) (.t 58), none⟩
  .done
  .nope)
  .nope)
  .nope)
  (.fork ⟨(some 57), .call 18 [(.t 56)], none⟩
  (.fork ⟨(some 53), .ld none (.t 52), none⟩
  (.fork ⟨(some 58), .call 15 [(.t 53), (.t 55), (.t 57)], none⟩
  (.fork ⟨none, .mset (.one .i64) (.t 49) (.t 51) (.t 58), none⟩
  .done
  .nope)
  .nope)
  .nope)
  .nope))
  .nope))
  .nope)))
  (.fork ⟨(some 56), .ld (some 5) (.t 10), none⟩
  (.fork ⟨(some 53), .ld none (.t 52), none⟩
  (.fork ⟨(some 54), .ld (some 5) (.t 11), none⟩
  (.fork ⟨(some 55), .call 17 [(.t 54)], none⟩
  (.fork ⟨(some 57), .call 18 [(.t 56)], none⟩
  (.fork ⟨(some 58), .call 15 [(.t 53), (.t 55), (.t 57)], none⟩
  (.fork ⟨none, .mset (.one .i64) (.t 49) (.t 51) (.t 58), none⟩
  .done
  .nope)
  .nope)
  .nope)
  .nope)
  .nope)
  (.fork ⟨(some 54), .ld (some 5) (.t 11), none⟩
  (.fork ⟨(some 53), .ld none (.t 52), none⟩
  (.fork ⟨(some 55), .call 17 [(.t 54)], none⟩
  (.fork ⟨(some 57), .call 18 [(.t 56)], none⟩
  (.fork ⟨(some 58), .call 15 [(.t 53), (.t 55), (.t 57)], none⟩
  (.fork ⟨none, .mset (.one .i64) (.t 49) (.t 51) (.t 58), none⟩
  .done
  .nope)
  .nope)
  .nope)
  .nope)
  (.fork ⟨(some 55), .call 17 [(.t 54)], none⟩
  (.fork ⟨(some 53), .ld none (.t 52), none⟩
  (.fork ⟨(some 57), .call 18 [(.t 56)], none⟩
  (.fork ⟨(some 58), .call 15 [(.t 53), (.t 55), (.t 57)], none⟩
  (.fork ⟨none, .mset (.one .i64) (.t 49) (.t 51) (.t 58), none⟩
  .done
  .nope)
  .nope)
  .nope)
  (.fork ⟨(some 57), .call 18 [(.t 56)], none⟩
  (.fork ⟨(some 53), .ld none (.t 52), none⟩
  (.fork ⟨(some 58), .call 15 [(.t 53), (.t 55), (.t 57)], none⟩
  (.fork ⟨none, .mset (.one .i64) (.t 49) (.t 51) (.t 58), none⟩
  .done
  .nope)
  .nope)
  .nope)
  .nope))
  .nope))
  .nope))
  .nope)))
  (.fork ⟨(some 53), .ld none (.t 52), none⟩
  (.fork ⟨(some 51), .ld none (.t 50), none⟩
  (.fork ⟨(some 54), .ld (some 5) (.t 11), none⟩
  (.fork ⟨(some 55), .call 17 [(.t 54)], none⟩
  (.fork ⟨(some 56), .ld (some 5) (.t 10), none⟩
  (.fork ⟨(some 57), .call 18 [(.t 56)], none⟩
  (.fork ⟨(some 58), .call 15 [(.t 53), (.t 55), (.t 57)], none⟩
  (.fork ⟨none, .mset (.one .i64) (.t 49) (.t 51) (.t 58), none⟩
  .done
  .nope)
  .nope)
  .nope)
  .nope)
  (.fork ⟨(some 56), .ld (some 5) (.t 10), none⟩
  (.fork ⟨(some 55), .call 17 [(.t 54)], none⟩
  (.fork ⟨(some 57), .call 18 [(.t 56)], none⟩
  (.fork ⟨(some 58), .call 15 [(.t 53), (.t 55), (.t 57)], none⟩
  (.fork ⟨none, .mset (.one .i64) (.t 49) (.t 51) (.t 58), none⟩
  .done
  .nope)
  .nope)
  .nope)
  .nope)
  .nope))
  (.fork ⟨(some 56), .ld (some 5) (.t 10), none⟩
  (.fork ⟨(some 54), .ld (some 5) (.t 11), none⟩
  (.fork ⟨(some 55), .call 17 [(.t 54)], none⟩
  (.fork ⟨(some 57), .call 18 [(.t 56)], none⟩
  (.fork ⟨(some 58), .call 15 [(.t 53), (.t 55), (.t 57)], none⟩
  (.fork ⟨none, .mset (.one .i64) (.t 49) (.t 51) (.t 58), none⟩
  .done
  .nope)
  .nope)
  .nope)
  .nope)
  .nope)
  .nope))
  (.fork ⟨(some 54), .ld (some 5) (.t 11), none⟩
  (.fork ⟨(some 51), .ld none (.t 50), none⟩
  (.fork ⟨(some 55), .call 17 [(.t 54)], none⟩
  (.fork ⟨(some 56), .ld (some 5) (.t 10), none⟩
  (.fork ⟨(some 57), .call 18 [(.t 56)], none⟩
  (.fork ⟨(some 58), .call 15 [(.t 53), (.t 55), (.t 57)], none⟩
  (.fork ⟨none, .mset (.one .i64) (.t 49) (.t 51) (.t 58), none⟩
  .done
  .nope)
  .nope)
  .nope)
  .nope)
  (.fork ⟨(some 56), .ld (some 5) (.t 10), none⟩
  (.fork ⟨(some 55), .call 17 [(.t 54)], none⟩
  (.fork ⟨(some 57), .call 18 [(.t 56)], none⟩
  (.fork ⟨(some 58), .call 15 [(.t 53), (.t 55), (.t 57)], none⟩
  (.fork ⟨none, .mset (.one .i64) (.t 49) (.t 51) (.t 58), none⟩
  .done
  .nope)
  .nope)
  .nope)
  .nope)
  .nope))
  (.fork ⟨(some 55), .call 17 [(.t 54)], none⟩
  (.fork ⟨(some 51), .ld none (.t 50), none⟩
  (.fork ⟨(some 56), .ld (some 5) (.t 10), none⟩
  (.fork ⟨(some 57), .call 18 [(.t 56)], none⟩
  (.fork ⟨(some 58), .call 15 [(.t 53), (.t 55), (.t 57)], none⟩
  (.fork ⟨none, .mset (.one .i64) (.t 49) (.t 51) (.t 58), none⟩
  .done
  .nope)
  .nope)
  .nope)
  .nope)
  (.fork ⟨(some 56), .ld (some 5) (.t 10), none⟩
  (.fork ⟨(some 51), .ld none (.t 50), none⟩
  (.fork ⟨(some 57), .call 18 [(.t 56)], none⟩
  (.fork ⟨(some 58), .call 15 [(.t 53), (.t 55), (.t 57)], none⟩
  (.fork ⟨none, .mset (.one .i64) (.t 49) (.t 51) (.t 58), none⟩
  .done
  .nope)
  .nope)
  .nope)
  (.fork ⟨(some 57), .call 18 [(.t 56)], none⟩
  (.fork ⟨(some 51), .ld none (.t 50), none⟩
  (.fork ⟨(some 58), .call 15 [(.t 53), (.t 55), (.t 57)], none⟩
  (.fork ⟨none, .mset (.one .i64) (.t 49) (.t 51) (.t 58), none⟩
  .done
  .nope)
  .nope)
  (.fork ⟨(some 58), .call 15 [(.t 53), (.t 55), (.t 57)], none⟩
  (.fork ⟨(some 51), .ld none (.t 50), none⟩
  (.fork ⟨none, .mset (.one .i64) (.t 49) (.t 51) (.t 58), none⟩
  .done
  .nope)
  .nope)
  .nope))
  .nope))
  .nope))
  (.fork ⟨(some 56), .ld (some 5) (.t 10), none⟩
  (.fork ⟨(some 51), .ld none (.t 50), none⟩
  (.fork ⟨(some 55), .call 17 [(.t 54)], none⟩
  (.fork ⟨(some 57), .call 18 [(.t 56)], none⟩
  (.fork ⟨(some 58), .call 15 [(.t 53), (.t 55), (.t 57)], none⟩
  (.fork ⟨none, .mset (.one .i64) (.t 49) (.t 51) (.t 58), none⟩
  .done
  .nope)
  .nope)
  .nope)
  .nope)
  (.fork ⟨(some 55), .call 17 [(.t 54)], none⟩
  (.fork ⟨(some 51), .ld none (.t 50), none⟩
  (.fork ⟨(some 57), .call 18 [(.t 56)], none⟩
  (.fork ⟨(some 58), .call 15 [(.t 53), (.t 55), (.t 57)], none⟩
  (.fork ⟨none, .mset (.one .i64) (.t 49) (.t 51) (.t 58), none⟩
  .done
  .nope)
  .nope)
  .nope)
  (.fork ⟨(some 57), .call 18 [(.t 56)], none⟩
  (.fork ⟨(some 51), .ld none (.t 50), none⟩
  (.fork ⟨(some 58), .call 15 [(.t 53), (.t 55), (.t 57)], none⟩
  (.fork ⟨none, .mset (.one .i64) (.t 49) (.t 51) (.t 58), none⟩
  .done
  .nope)
  .nope)
  (.fork ⟨(some 58), .call 15 [(.t 53), (.t 55), (.t 57)], none⟩
  (.fork ⟨(some 51), .ld none (.t 50), none⟩
  (.fork ⟨none, .mset (.one .i64) (.t 49) (.t 51) (.t 58), none⟩
  .done
  .nope)
  .nope)
  .nope))
  .nope))
  .nope))
  .nope)))
  (.fork ⟨(some 56), .ld (some 5) (.t 10), none⟩
  (.fork ⟨(some 51), .ld none (.t 50), none⟩
  (.fork ⟨(some 54), .ld (some 5) (.t 11), none⟩
  (.fork ⟨(some 55), .call 17 [(.t 54)], none⟩
  (.fork ⟨(some 57), .call 18 [(.t 56)], none⟩
  (.fork ⟨(some 58), .call 15 [(.t 53), (.t 55), (.t 57)], none⟩
  (.fork ⟨none, .mset (.one .i64) (.t 49) (.t 51) (.t 58), none⟩
  .done
  .nope)
  .nope)
  .nope)
  .nope)
  .nope)
  (.fork ⟨(some 54), .ld (some 5) (.t 11), none⟩
  (.fork ⟨(some 51), .ld none (.t 50), none⟩
  (.fork ⟨(some 55), .call 17 [(.t 54)], none⟩
  (.fork ⟨(some 57), .call 18 [(.t 56)], none⟩
  (.fork ⟨(some 58), .call 15 [(.t 53), (.t 55), (.t 57)], none⟩
  (.fork ⟨none, .mset (.one .i64) (.t 49) (.t 51) (.t 58), none⟩
  .done
  .nope)
  .nope)
  .nope)
  .nope)
  (.fork ⟨(some 55), .call 17 [(.t 54)], none⟩
  (.fork ⟨(some 51), .ld none (.t 50), none⟩
  (.fork ⟨(some 57), .call 18 [(.t 56)], none⟩
  (.fork ⟨(some 58), .call 15 [(.t 53), (.t 55), (.t 57)], none⟩
  (.fork ⟨none, .mset (.one .i64) (.t 49) (.t 51) (.t 58), none⟩
  .done
  .nope)
  .nope)
  .nope)
  (.fork ⟨(some 57), .call 18 [(.t 56)], none⟩
  (.fork ⟨(some 51), .ld none (.t 50), none⟩
  (.fork ⟨(some 58), .call 15 [(.t 53), (.t 55), (.t 57)], none⟩
  (.fork ⟨none, .mset (.one .i64) (.t 49) (.t 51) (.t 58), none⟩
  .done
  .nope)
  .nope)
  (.fork ⟨(some 58), .call 15 [(.t 53), (.t 55), (.t 57)], none⟩
  (.fork ⟨(some 51), .ld none (.t 50), none⟩
  (.fork ⟨none, .mset (.one .i64) (.t 49) (.t 51) (.t 58), none⟩
  .done
  .nope)
  .nope)
  .nope))
  .nope))
  .nope))
  .nope))
  .nope)))
  (.fork ⟨(some 54), .ld (some 5) (.t 11), none⟩
  (.fork ⟨(some 51), .ld none (.t 50), none⟩
  (.fork ⟨(some 53), .ld none (.t 52), none⟩
  (.fork ⟨(some 55), .call 17 [(.t 54)], none⟩
  (.fork ⟨(some 56), .ld (some 5) (.t 10), none⟩
  (.fork ⟨(some 57), .call 18 [(.t 56)], none⟩
  (.fork ⟨(some 58), .call 15 [(.t 53), (.t 55), (.t 57)], none⟩
  (.fork ⟨none, .mset (.one .i64) (.t 49) (.t 51) (.t 58), none⟩
  .done
  .nope)
  .nope)
  .nope)
  .nope)
  (.fork ⟨(some 56), .ld (some 5) (.t 10), none⟩
  (.fork ⟨(some 55), .call 17 [(.t 54)], none⟩
  (.fork ⟨(some 57), .call 18 [(.t 56)], none⟩
  (.fork ⟨(some 58), .call 15 [(.t 53), (.t 55), (.t 57)], none⟩
  (.fork ⟨none, .mset (.one .i64) (.t 49) (.t 51) (.t 58), none⟩
  .done
  .nope)
  .nope)
  .nope)
  .nope)
  .nope))
  (.fork ⟨(some 55), .call 17 [(.t 54)], none⟩
  (.fork ⟨(some 53), .ld none (.t 52), none⟩
  (.fork ⟨(some 56), .ld (some 5) (.t 10), none⟩
  (.fork ⟨(some 57), .call 18 [(.t 56)], none⟩
  (.fork ⟨(some 58), .call 15 [(.t 53), (.t 55), (.t 57)], none⟩
  (.fork ⟨none, .mset (.one .i64) (.t 49) (.t 51) (.t 58), none⟩
  .done
  .nope)
  .nope)
  .nope)
  .nope)
  (.fork ⟨(some 56), .ld (some 5) (.t 10), none⟩
  (.fork ⟨(some 53), .ld none (.t 52), none⟩
  (.fork ⟨(some 57), .call 18 [(.t 56)], none⟩
  (.fork ⟨(some 58), .call 15 [(.t 53), (.t 55), (.t 57)], none⟩
  (.fork ⟨none, .mset (.one .i64) (.t 49) (.t 51) (.t 58), none⟩
  .done
  .nope)
  .nope)
  .nope)
  (.fork ⟨(some 57), .call 18 [(.t 56)], none⟩
  (.fork ⟨(some 53), .ld none (.t 52), none⟩
  (.fork ⟨(some 58), .call 15 [(.t 53), (.t 55), (.t 57)], none⟩
  (.fork ⟨none, .mset (.one .i64) (.t 49) (.t 51) (.t 58), none⟩
  .done
  .nope)
  .nope)
  .nope)
  .nope))
  .nope))
  (.fork ⟨(some 56), .ld (some 5) (.t 10), none⟩
  (.fork ⟨(some 53), .ld none (.t 52), none⟩
  (.fork ⟨(some 55), .call 17 [(.t 54)], none⟩
  (.fork ⟨(some 57), .call 18 [(.t 56)], none⟩
  (.fork ⟨(some 58), .call 15 [(.t 53), (.t 55), (.t 57)], none⟩
  (.fork ⟨none, .mset (.one .i64) (.t 49) (.t 51) (.t 58), none⟩
  .done
  .nope)
  .nope)
  .nope)
  .nope)
  (.fork ⟨(some 55), .call 17 [(.t 54)], none⟩
  (.fork ⟨(some 53), .ld none (.t 52), none⟩
  (.fork ⟨(some 57), .call 18 [(.t 56)], none⟩
  (.fork ⟨(some 58), .call 15 [(.t 53), (.t 55), (.t 57)], none⟩
  (.fork ⟨none, .mset (.one .i64) (.t 49) (.t 51) (.t 58), none⟩
  .done
  .nope)
  .nope)
  .nope)
  (.fork ⟨(some 57), .call 18 [(.t 56)], none⟩
  (.fork ⟨(some 53), .ld none (.t 52), none⟩
  (.fork ⟨(some 58), .call 15 [(.t 53), (.t 55), (.t 57)], none⟩
  (.fork ⟨none, .mset (.one .i64) (.t 49) (.t 51) (.t 58), none⟩
  .done
  .nope)
  .nope)
  .nope)
  .nope))
  .nope))
  .nope)))
  (.fork ⟨(some 53), .ld none (.t 52), none⟩
  (.fork ⟨(some 51), .ld none (.t 50), none⟩
  (.fork ⟨(some 55), .call 17 [(.t 54)], none⟩
  (.fork ⟨(some 56), .ld (some 5) (.t 10), none⟩
  (.fork ⟨(some 57), .call 18 [(.t 56)], none⟩
  (.fork ⟨(some 58), .call 15 [(.t 53), (.t 55), (.t 57)], none⟩
  (.fork ⟨none, .mset (.one .i64) (.t 49) (.t 51) (.t 58), none⟩
  .done
  .nope)
  .nope)
  .nope)
  .nope)
  (.fork ⟨(some 56), .ld (some 5) (.t 10), none⟩
  (.fork ⟨(some 55), .call 17 [(.t 54)], none⟩
  (.fork ⟨(some 57), .call 18 [(.t 56)], none⟩
  (.fork ⟨(some 58), .call 15 [(.t 53), (.t 55), (.t 57)], none⟩
  (.fork ⟨none, .mset (.one .i64) (.t 49) (.t 51) (.t 58), none⟩
  .done
  .nope)
  .nope)
  .nope)
  .nope)
  .nope))
  (.fork ⟨(some 55), .call 17 [(.t 54)], none⟩
  (.fork ⟨(some 51), .ld none (.t 50), none⟩
  (.fork ⟨(some 56), .ld (some 5) (.t 10), none⟩
  (.fork ⟨(some 57), .call 18 [(.t 56)], none⟩
  (.fork ⟨(some 58), .call 15 [(.t 53), (.t 55), (.t 57)], none⟩
  (.fork ⟨none, .mset (.one .i64) (.t 49) (.t 51) (.t 58), none⟩
  .done
  .nope)
  .nope)
  .nope)
  .nope)
  (.fork ⟨(some 56), .ld (some 5) (.t 10), none⟩
  (.fork ⟨(some 51), .ld none (.t 50), none⟩
  (.fork ⟨(some 57), .call 18 [(.t 56)], none⟩
  (.fork ⟨(some 58), .call 15 [(.t 53), (.t 55), (.t 57)], none⟩
  (.fork ⟨none, .mset (.one .i64) (.t 49) (.t 51) (.t 58), none⟩
  .done
  .nope)
  .nope)
  .nope)
  (.fork ⟨(some 57), .call 18 [(.t 56)], none⟩
  (.fork ⟨(some 51), .ld none (.t 50), none⟩
  (.fork ⟨(some 58), .call 15 [(.t 53), (.t 55), (.t 57)], none⟩
  (.fork ⟨none, .mset (.one .i64) (.t 49) (.t 51) (.t 58), none⟩
  .done
  .nope)
  .nope)
  (.fork ⟨(some 58), .call 15 [(.t 53), (.t 55), (.t 57)], none⟩
  (.fork ⟨(some 51), .ld none (.t 50), none⟩
  (.fork ⟨none, .mset (.one .i64) (.t 49) (.t 51) (.t 58), none⟩
  .done
  .nope)
  .nope)
  .nope))
  .nope))
  .nope))
  (.fork ⟨(some 56), .ld (some 5) (.t 10), none⟩
  (.fork ⟨(some 51), .ld none (.t 50), none⟩
  (.fork ⟨(some 55), .call 17 [(.t 54)], none⟩
  (.fork ⟨(some 57), .call 18 [(.t 56)], none⟩
  (.fork ⟨(some 58), .call 15 [(.t 53), (.t 55), (.t 57)], none⟩
  (.fork ⟨none, .mset (.one .i64) (.t 49) (.t 51) (.t 58), none⟩
  .done
  .nope)
  .nope)
  .nope)
  .nope)
  (.fork ⟨(some 55), .call 17 [(.t 54)], none⟩
  (.fork ⟨(some 51), .ld none (.t 50), none⟩
  (.fork ⟨(some 57), .call 18 [(.t 56)], none⟩
  (.fork ⟨(some 58), .call 15 [(.t 53), (.t 55), (.t 57)], none⟩
  (.fork ⟨none, .mset (.one .i64) (.t 49) (.t 51) (.t 58), none⟩
  .done
  .nope)
  .nope)
  .nope)
  (.fork ⟨(some 57), .call 18 [(.t 56)], none⟩
  (.fork ⟨(some 51), .ld none (.t 50), none⟩
  (.fork ⟨(some 58), .call 15 [(.t 53), (.t 55), (.t 57)], none⟩
  (.fork ⟨none, .mset (.one .i64) (.t 49) (.t 51) (.t 58), none⟩
  .done
  .nope)
  .nope)
  (.fork ⟨(some 58), .call 15 [(.t 53), (.t 55), (.t 57)], none⟩
  (.fork ⟨(some 51), .ld none (.t 50), none⟩
  (.fork ⟨none, .mset (.one .i64) (.t 49) (.t 51) (.t 58), none⟩
  .done
  .nope)
  .nope)
  .nope))
  .nope))
  .nope))
  .nope)))
  (.fork ⟨(some 55), .call 17 [(.t 54)], none⟩
  (.fork ⟨(some 51), .ld none (.t 50), none⟩
  (.fork ⟨(some 53), .ld none (.t 52), none⟩
  (.fork ⟨(some 56), .ld (some 5) (.t 10), none⟩
  (.fork ⟨(some 57), .call 18 [(.t 56)], none⟩
  (.fork ⟨(some 58), .call 15 [(.t 53), (.t 55), (.t 57)], none⟩
  (.fork ⟨none, .mset (.one .i64) (.t 49) (.t 51) (.t 58), none⟩
  .done
  .nope)
  .nope)
  .nope)
  .nope)
  (.fork ⟨(some 56), .ld (some 5) (.t 10), none⟩
  (.fork ⟨(some 53), .ld none (.t 52), none⟩
  (.fork ⟨(some 57), .call 18 [(.t 56)], none⟩
  (.fork ⟨(some 58), .call 15 [(.t 53), (.t 55), (.t 57)], none⟩
  (.fork ⟨none, .mset (.one .i64) (.t 49) (.t 51) (.t 58), none⟩
  .done
  .nope)
  .nope)
  .nope)
  (.fork ⟨(some 57), .call 18 [(.t 56)], none⟩
  (.fork ⟨(some 53), .ld none (.t 52), none⟩
  (.fork ⟨(some 58), .call 15 [(.t 53), (.t 55), (.t 57)], none⟩
  (.fork ⟨none, .mset (.one .i64) (.t 49) (.t 51) (.t 58), none⟩
  .done
  .nope)
  .nope)
  .nope)
  .nope))
  .nope))
  (.fork ⟨(some 53), .ld none (.t 52), none⟩
  (.fork ⟨(some 51), .ld none (.t 50), none⟩
  (.fork ⟨(some 56), .ld (some 5) (.t 10), none⟩
  (.fork ⟨(some 57), .call 18 [(.t 56)], none⟩
  (.fork ⟨(some 58), .call 15 [(.t 53), (.t 55), (.t 57)], none⟩
  (.fork ⟨none, .mset (.one .i64) (.t 49) (.t 51) (.t 58), none⟩
  .done
  .nope)
  .nope)
  .nope)
  .nope)
  (.fork ⟨(some 56), .ld (some 5) (.t 10), none⟩
  (.fork ⟨(some 51), .ld none (.t 50), none⟩
  (.fork ⟨(some 57), .call 18 [(.t 56)], none⟩
  (.fork ⟨(some 58), .call 15 [(.t 53), (.t 55), (.t 57)], none⟩
  (.fork ⟨none, .mset (.one .i64) (.t 49) (.t 51) (.t 58), none⟩
  .done
  .nope)
  .nope)
  .nope)
  (.fork ⟨(some 57), .call 18 [(.t 56)], none⟩
  (.fork ⟨(some 51), .ld none (.t 50), none⟩
  (.fork ⟨(some 58), .call 15 [(.t 53), (.t 55), (.t 57)], none⟩
  (.fork ⟨none, .mset (.one .i64) (.t 49) (.t 51) (.t 58), none⟩
  .done
  .nope)
  .nope)
  (.fork ⟨(some 58), .call 15 [(.t 53), (.t 55), (.t 57)], none⟩
  (.fork ⟨(some 51), .ld none (.t 50), none⟩
  (.fork ⟨none, .mset (.one .i64) (.t 49) (.t 51) (.t 58), none⟩
  .done
  .nope)
  .nope)
  .nope))
  .nope))
  .nope))
  (.fork ⟨(some 56), .ld (some 5) (.t 10), none⟩
  (.fork ⟨(some 51), .ld none (.t 50), none⟩
  (.fork ⟨(some 53), .ld none (.t 52), none⟩
  (.fork ⟨(some 57), .call 18 [(.t 56)], none⟩
  (.fork ⟨(some 58), .call 15 [(.t 53), (.t 55), (.t 57)], none⟩
  (.fork ⟨none, .mset (.one .i64) (.t 49) (.t 51) (.t 58), none⟩
  .done
  .nope)
  .nope)
  .nope)
  (.fork ⟨(some 57), .call 18 [(.t 56)], none⟩
  (.fork ⟨(some 53), .ld none (.t 52), none⟩
  (.fork ⟨(some 58), .call 15 [(.t 53), (.t 55), (.t 57)], none⟩
  (.fork ⟨none, .mset (.one .i64) (.t 49) (.t 51) (.t 58), none⟩
  .done
  .nope)
  .nope)
  .nope)
  .nope))
  (.fork ⟨(some 53), .ld none (.t 52), none⟩
  (.fork ⟨(some 51), .ld none (.t 50), none⟩
  (.fork ⟨(some 57), .call 18 [(.t 56)], none⟩
  (.fork ⟨(some 58), .call 15 [(.t 53), (.t 55), (.t 57)], none⟩
  (.fork ⟨none, .mset (.one .i64) (.t 49) (.t 51) (.t 58), none⟩
  .done
  .nope)
  .nope)
  .nope)
  (.fork ⟨(some 57), .call 18 [(.t 56)], none⟩
  (.fork ⟨(some 51), .ld none (.t 50), none⟩
  (.fork ⟨(some 58), .call 15 [(.t 53), (.t 55), (.t 57)], none⟩
  (.fork ⟨none, .mset (.one .i64) (.t 49) (.t 51) (.t 58), none⟩
  .done
  .nope)
  .nope)
  (.fork ⟨(some 58), .call 15 [(.t 53), (.t 55), (.t 57)], none⟩
  (.fork ⟨(some 51), .ld none (.t 50), none⟩
  (.fork ⟨none, .mset (.one .i64) (.t 49) (.t 51) (.t 58), none⟩
  .done
  .nope)
  .nope)
  .nope))
  .nope))
  (.fork ⟨(some 57), .call 18 [(.t 56)], none⟩
  (.fork ⟨(some 51), .ld none (.t 50), none⟩
  (.fork ⟨(some 53), .ld none (.t 52), none⟩
  (.fork ⟨(some 58), .call 15 [(.t 53), (.t 55), (.t 57)], none⟩
  (.fork ⟨none, .mset (.one .i64) (.t 49) (.t 51) (.t 58), none⟩
  .done
  .nope)
  .nope)
  .nope)
  (.fork ⟨(some 53), .ld none (.t 52), none⟩
  (.fork ⟨(some 51), .ld none (.t 50), none⟩
  (.fork ⟨(some 58), .call 15 [(.t 53), (.t 55), (.t 57)], none⟩
  (.fork ⟨none, .mset (.one .i64) (.t 49) (.t 51) (.t 58), none⟩
  .done
  .nope)
  .nope)
  (.fork ⟨(some 58), .call 15 [(.t 53), (.t 55), (.t 57)], none⟩
  (.fork ⟨(some 51), .ld none (.t 50), none⟩
  (.fork ⟨none, .mset (.one .i64) (.t 49) (.t 51) (.t 58), none⟩
  .done
  .nope)
  .nope)
  .nope))
  .nope))
  .nope)))
  .nope)))
  (.fork ⟨(some 56), .ld (some 5) (.t 10), none⟩
  (.fork ⟨(some 51), .ld none (.t 50), none⟩
  (.fork ⟨(some 53), .ld none (.t 52), none⟩
  (.fork ⟨(some 55), .call 17 [(.t 54)], none⟩
  (.fork ⟨(some 57), .call 18 [(.t 56)], none⟩
  (.fork ⟨(some 58), .call 15 [(.t 53), (.t 55), (.t 57)], none⟩
  (.fork ⟨none, .mset (.one .i64) (.t 49) (.t 51) (.t 58), none⟩
  .done
  .nope)
  .nope)
  .nope)
  .nope)
  (.fork ⟨(some 55), .call 17 [(.t 54)], none⟩
  (.fork ⟨(some 53), .ld none (.t 52), none⟩
  (.fork ⟨(some 57), .call 18 [(.t 56)], none⟩
  (.fork ⟨(some 58), .call 15 [(.t 53), (.t 55), (.t 57)], none⟩
  (.fork ⟨none, .mset (.one .i64) (.t 49) (.t 51) (.t 58), none⟩
  .done
  .nope)
  .nope)
  .nope)
  (.fork ⟨(some 57), .call 18 [(.t 56)], none⟩
  (.fork ⟨(some 53), .ld none (.t 52), none⟩
  (.fork ⟨(some 58), .call 15 [(.t 53), (.t 55), (.t 57)], none⟩
  (.fork ⟨none, .mset (.one .i64) (.t 49) (.t 51) (.t 58), none⟩
  .done
  .nope)
  .nope)
  .nope)
  .nope))
  .nope))
  (.fork ⟨(some 53), .ld none (.t 52), none⟩
  (.fork ⟨(some 51), .ld none (.t 50), none⟩
  (.fork ⟨(some 55), .call 17 [(.t 54)], none⟩
  (.fork ⟨(some 57), .call 18 [(.t 56)], none⟩
  (.fork ⟨(some 58), .call 15 [(.t 53), (.t 55), (.t 57)], none⟩
  (.fork ⟨none, .mset (.one .i64) (.t 49) (.t 51) (.t 58), none⟩
  .done
  .nope)
  .nope)
  .nope)
  .nope)
  (.fork ⟨(some 55), .call 17 [(.t 54)], none⟩
  (.fork ⟨(some 51), .ld none (.t 50), none⟩
  (.fork ⟨(some 57), .call 18 [(.t 56)], none⟩
  (.fork ⟨(some 58), .call 15 [(.t 53), (.t 55), (.t 57)], none⟩
  (.fork ⟨none, .mset (.one .i64) (.t 49) (.t 51) (.t 58), none⟩
  .done
  .nope)
  .nope)
  .nope)
  (.fork ⟨(some 57), .call 18 [(.t 56)], none⟩
  (.fork ⟨(some 51), .ld none (.t 50), none⟩
  (.fork ⟨(some 58), .call 15 [(.t 53), (.t 55), (.t 57)], none⟩
  (.fork ⟨none, .mset (.one .i64) (.t 49) (.t 51) (.t 58), none⟩
  .done
  .nope)
  .nope)
  (.fork ⟨(some 58), .call 15 [(.t 53), (.t 55), (.t 57)], none⟩
  (.fork ⟨(some 51), .ld none (.t 50), none⟩
  (.fork ⟨none, .mset (.one .i64) (.t 49) (.t 51) (.t 58), none⟩
  .done
  .nope)
  .nope)
  .nope))
  .nope))
  .nope))
  (.fork ⟨(some 55), .call 17 [(.t 54)], none⟩
  (.fork ⟨(some 51), .ld none (.t 50), none⟩
  (.fork ⟨(some 53), .ld none (.t 52), none⟩
  (.fork ⟨(some 57), .call 18 [(.t 56)], none⟩
  (.fork ⟨(some 58), .call 15 [(.t 53), (.t 55), (.t 57)], none⟩
  (.fork ⟨none, .mset (.one .i64) (.t 49) (.t 51) (.t 58), none⟩
  .done
  .nope)
  .nope)
  .nope)
  (.fork ⟨(some 57), .call 18 [(.t 56)], none⟩
  (.fork ⟨(some 53), .ld none (.t 52), none⟩
  (.fork ⟨(some 58), .call 15 [(.t 53), (.t 55), (.t 57)], none⟩
  (.fork ⟨none, .mset (.one .i64) (.t 49) (.t 51) (.t 58), none⟩
  .done
  .nope)
  .nope)
  .nope)
  .nope))
  (.fork ⟨(some 53), .ld none (.t 52), none⟩
  (.fork ⟨(some 51), .ld none (.t 50), none⟩
  (.fork ⟨(some 57), .call 18 [(.t 56)], none⟩
  (.fork ⟨(some 58), .call 15 [(.t 53), (.t 55), (.t 57)], none⟩
  (.fork ⟨none, .mset (.one .i64) (.t 49) (.t 51) (.t 58), none⟩
  .done
  .nope)
  .nope)
  .nope)
  (.fork ⟨(some 57), .call 18 [(.t 56)], none⟩
  (.fork ⟨(some 51), .ld none (.t 50), none⟩
  (.fork ⟨(some 58), .call 15 [(.t 53), (.t 55), (.t 57)], none⟩
  (.fork ⟨none, .mset (.one .i64) (.t 49) (.t 51) (.t 58), none⟩
  .done
  .nope)
  .nope)
  (.fork ⟨(some 58), .call 15 [(.t 53), (.t 55), (.t 57)], none⟩
  (.fork ⟨(some 51), .ld none (.t 50), none⟩
  (.fork ⟨none, .mset (.one .i64) (.t 49) (.t 51) (.t 58), none⟩
  .done
  .nope)
  .nope)
  .nope))
  .nope))
  (.fork ⟨(some 57), .call 18 [(.t 56)], none⟩
  (.fork ⟨(some 51), .ld none (.t 50), none⟩
  (.fork ⟨(some 53), .ld none (.t 52), none⟩
  (.fork ⟨(some 58), .call 15 [(.t 53), (.t 55), (.t 57)], none⟩
  (.fork ⟨none, .mset (.one .i64) (.t 49) (.t 51) (.t 58), none⟩
  .done
  .nope)
  .nope)
  .nope)
  (.fork ⟨(some 53), .ld none (.t 52), none⟩
  (.fork ⟨(some 51), .ld none (.t 50), none⟩
  (.fork ⟨(some 58), .call 15 [(.t 53), (.t 55), (.t 57)], none⟩
  (.fork ⟨none, .mset (.one .i64) (.t 49) (.t 51) (.t 58), none⟩
  .done
  .nope)
  .nope)
  (.fork ⟨(some 58), .call 15 [(.t 53), (.t 55), (.t 57)], none⟩
  (.fork ⟨(some 51), .ld none (.t 50), none⟩
  (.fork ⟨none, .mset (.one .i64) (.t 49) (.t 51) (.t 58), none⟩
  .done
  .nope)
  .nope)
  .nope))
  .nope))
  .nope)))
  .nope)))
  .nope))))
  (.fork ⟨(some 56), .ld (some 5) (.t 10), none⟩
  (.fork ⟨(some 51), .ld none (.t 50), none⟩
  (.fork ⟨(some 53), .ld none (.t 52), none⟩
  (.fork ⟨(some 54), .ld (some 5) (.t 11), none⟩
  (.fork ⟨(some 55), .call 17 [(.t 54)], none⟩
  (.fork ⟨(some 57), .call 18 [(.t 56)], none⟩
  (.fork ⟨(some 58), .call 15 [(.t 53), (.t 55), (.t 57)], none⟩
  (.fork ⟨none, .mset (.one .i64) (.t 49) (.t 51) (.t 58), none⟩
  .done
  .nope)
  .nope)
  .nope)
  .nope)
  .nope)
  (.fork ⟨(some 54), .ld (some 5) (.t 11), none⟩
  (.fork ⟨(some 53), .ld none (.t 52), none⟩
  (.fork ⟨(some 55), .call 17 [(.t 54)], none⟩
  (.fork ⟨(some 57), .call 18 [(.t 56)], none⟩
  (.fork ⟨(some 58), .call 15 [(.t 53), (.t 55), (.t 57)], none⟩
  (.fork ⟨none, .mset (.one .i64) (.t 49) (.t 51) (.t 58), none⟩
  .done
  .nope)
  .nope)
  .nope)
  .nope)
  (.fork ⟨(some 55), .call 17 [(.t 54)], none⟩
  (.fork ⟨(some 53), .ld none (.t 52), none⟩
  (.fork ⟨(some 57), .call 18 [(.t 56)], none⟩
  (.fork ⟨(some 58), .call 15 [(.t 53), (.t 55), (.t 57)], none⟩
  (.fork ⟨none, .mset (.one .i64) (.t 49) (.t 51) (.t 58), none⟩
  .done
  .nope)
  .nope)
  .nope)
  (.fork ⟨(some 57), .call 18 [(.t 56)], none⟩
  (.fork ⟨(some 53), .ld none (.t 52), none⟩
  (.fork ⟨(some 58), .call 15 [(.t 53), (.t 55), (.t 57)], none⟩
  (.fork ⟨none, .mset (.one .i64) (.t 49) (.t 51) (.t 58), none⟩
  .done
  .nope)
  .nope)
  .nope)
  .nope))
  .nope))
  .nope))
  (.fork ⟨(some 53), .ld none (.t 52), none⟩
  (.fork ⟨(some 51), .ld none (.t 50), none⟩
  (.fork ⟨(some 54), .ld (some 5) (.t 11), none⟩
  (.fork ⟨(some 55), .call 17 [(.t 54)], none⟩
  (.fork ⟨(some 57), .call 18 [(.t 56)], none⟩
  (.fork ⟨(some 58), .call 15 [(.t 53), (.t 55), (.t 57)], none⟩
  (.fork ⟨none, .mset (.one .i64) (.t 49) (.t 51) (.t 58), none⟩
  .done
  .nope)
  .nope)
  .nope)
  .nope)
  .nope)
  (.fork ⟨(some 54), .ld (some 5) (.t 11), none⟩
  (.fork ⟨(some 51), .ld none (.t 50), none⟩
  (.fork ⟨(some 55), .call 17 [(.t 54)], none⟩
  (.fork ⟨(some 57), .call 18 [(.t 56)], none⟩
  (.fork ⟨(some 58), .call 15 [(.t 53), (.t 55), (.t 57)], none⟩
  (.fork ⟨none, .mset (.one .i64) (.t 49) (.t 51) (.t 58), none⟩
  .done
  .nope)
  .nope)
  .nope)
  .nope)
  (.fork ⟨(some 55), .call 17 [(.t 54)], none⟩
  (.fork ⟨(some 51), .ld none (.t 50), none⟩
  (.fork ⟨(some 57), .call 18 [(.t 56)], none⟩
  (.fork ⟨(some 58), .call 15 [(.t 53), (.t 55), (.t 57)], none⟩
  (.fork ⟨none, .mset (.one .i64) (.t 49) (.t 51) (.t 58), none⟩
  .done
  .nope)
  .nope)
  .nope)
  (.fork ⟨(some 57), .call 18 [(.t 56)], none⟩
  (.fork ⟨(some 51), .ld none (.t 50), none⟩
  (.fork ⟨(some 58), .call 15 [(.t 53), (.t 55), (.t 57)], none⟩
  (.fork ⟨none, .mset (.one .i64) (.t 49) (.t 51) (.t 58), none⟩
  .done
  .nope)
  .nope)
  (.fork ⟨(some 58), .call 15 [(.t 53), (.t 55), (.t 57)], none⟩
  (.fork ⟨(some 51), .ld none (.t 50), none⟩
  (.fork ⟨none, .mset (.one .i64) (.t 49) (.t 51) (.t 58), none⟩
  .done
  .nope)
  .nope)
  .nope))
  .nope))
  .nope))
  .nope))
  (.fork ⟨(some 54), .ld (some 5) (.t 11), none⟩
  (.fork ⟨(some 51), .ld none (.t 50), none⟩
  (.fork ⟨(some 53), .ld none (.t 52), none⟩
  (.fork ⟨(some 55), .call 17 [(.t 54)], none⟩
  (.fork ⟨(some 57), .call 18 [(.t 56)], none⟩
  (.fork ⟨(some 58), .call 15 [(.t 53), (.t 55), (.t 57)], none⟩
  (.fork ⟨none, .mset (.one .i64) (.t 49) (.t 51) (.t 58), none⟩
  .done
  .nope)
  .nope)
  .nope)
  .nope)
  (.fork ⟨(some 55), .call 17 [(.t 54)], none⟩
  (.fork ⟨(some 53), .ld none (.t 52), none⟩
  (.fork ⟨(some 57), .call 18 [(.t 56)], none⟩
  (.fork ⟨(some 58), .call 15 [(.t 53), (.t 55), (.t 57)], none⟩
  (.fork ⟨none, .mset (.one .i64) (.t 49) (.t 51) (.t 58), none⟩
  .done
  .nope)
  .nope)
  .nope)
  (.fork ⟨(some 57), .call 18 [(.t 56)], none⟩
  (.fork ⟨(some 53), .ld none (.t 52), none⟩
  (.fork ⟨(some 58), .call 15 [(.t 53), (.t 55), (.t 57)], none⟩
  (.fork ⟨none, .mset (.one .i64) (.t 49) (.t 51) (.t 58), none⟩
  .done
  .nope)
  .nope)
  .nope)
  .nope))
  .nope))
  (.fork ⟨(some 53), .ld none (.t 52), none⟩
  (.fork ⟨(some 51), .ld none (.t 50), none⟩
  (.fork ⟨(some 55), .call 17 [(.t 54)], none⟩
  (.fork ⟨(some 57), .call 18 [(.t 56)], none⟩
  (.fork ⟨(some 58), .call 15 [(.t 53), (.t 55), (.t 57)], none⟩
  (.fork ⟨none, .mset (.one .i64) (.t 49) (.t 51) (.t 58), none⟩
  .done
  .nope)
  .nope)
  .nope)
  .nope)
  (.fork ⟨(some 55), .call 17 [(.t 54)], none⟩
  (.fork ⟨(some 51), .ld none (.t 50), none⟩
  (.fork ⟨(some 57), .call 18 [(.t 56)], none⟩
  (.fork ⟨(some 58), .call 15 [(.t 53), (.t 55), (.t 57)], none⟩
  (.fork ⟨none, .mset (.one .i64) (.t 49) (.t 51) (.t 58), none⟩
  .done
  .nope)
  .nope)
  .nope)
  (.fork ⟨(some 57), .call 18 [(.t 56)], none⟩
  (.fork ⟨(some 51), .ld none (.t 50), none⟩
  (.fork ⟨(some 58), .call 15 [(.t 53), (.t 55), (.t 57)], none⟩
  (.fork ⟨none, .mset (.one .i64) (.t 49) (.t 51) (.t 58), none⟩
  .done
  .nope)
  .nope)
  (.fork ⟨(some 58), .call 15 [(.t 53), (.t 55), (.t 57)], none⟩
  (.fork ⟨(some 51), .ld none (.t 50), none⟩
  (.fork ⟨none, .mset (.one .i64) (.t 49) (.t 51) (.t 58), none⟩
  .done
  .nope)
  .nope)
  .nope))
  .nope))
  .nope))
  (.fork ⟨(some 55), .call 17 [(.t 54)], none⟩
  (.fork ⟨(some 51), .ld none (.t 50), none⟩
  (.fork ⟨(some 53), .ld none (.t 52), none⟩
  (.fork ⟨(some 57), .call 18 [(.t 56)], none⟩
  (.fork ⟨(some 58), .call 15 [(.t 53), (.t 55), (.t 57)], none⟩
  (.fork ⟨none, .mset (.one .i64) (.t 49) (.t 51) (.t 58), none⟩
  .done
  .nope)
  .nope)
  .nope)
  (.fork ⟨(some 57), .call 18 [(.t 56)], none⟩
  (.fork ⟨(some 53), .ld none (.t 52), none⟩
  (.fork ⟨(some 58), .call 15 [(.t 53), (.t 55), (.t 57)], none⟩
  (.fork ⟨none, .mset (.one .i64) (.t 49) (.t 51) (.t 58), none⟩
  .done
  .nope)
  .nope)
  .nope)
  .nope))
  (.fork ⟨(some 53), .ld none (.t 52), none⟩
  (.fork ⟨(some 51), .ld none (.t 50), none⟩
  (.fork ⟨(some 57), .call 18 [(.t 56)], none⟩
  (.fork ⟨(some 58), .call 15 [(.t 53), (.t 55), (.t 57)], none⟩
  (.fork ⟨none, .mset (.one .i64) (.t 49) (.t 51) (.t 58), none⟩
  .done
  .nope)
  .nope)
  .nope)
  (.fork ⟨(some 57), .call 18 [(.t 56)], none⟩
  (.fork ⟨(some 51), .ld none (.t 50), none⟩
  (.fork ⟨(some 58), .call 15 [(.t 53), (.t 55), (.t 57)], none⟩
  (.fork ⟨none, .mset (.one .i64) (.t 49) (.t 51) (.t 58), none⟩
  .done
  .nope)
  .nope)
  (.fork ⟨(some 58), .call 15 [(.t 53), (.t 55), (.t 57)], none⟩
  (.fork ⟨(some 51), .ld none (.t 50), none⟩
  (.fork ⟨none, .mset (.one .i64) (.t 49) (.t 51) (.t 58), none⟩
  .done
  .nope)
  .nope)
  .nope))
  .nope))
  (.fork ⟨(some 57), .call 18 [(.t 56)], none⟩
  (.fork ⟨(some 51), .ld none (.t 50), none⟩
  (.fork ⟨(some 53), .ld none (.t 52), none⟩
  (.fork ⟨(some 58), .call 15 [(.t 53), (.t 55), (.t 57)], none⟩
  (.fork ⟨none, .mset (.one .i64) (.t 49) (.t 51) (.t 58), none⟩
  .done
  .nope)
  .nope)
  .nope)
  (.fork ⟨(some 53), .ld none (.t 52), none⟩
  (.fork ⟨(some 51), .ld none (.t 50), none⟩
  (.fork ⟨(some 58), .call 15 [(.t 53), (.t 55), (.t 57)], none⟩
  (.fork ⟨none, .mset (.one .i64) (.t 49) (.t 51) (.t 58), none⟩
  .done
  .nope)
  .nope)
  (.fork ⟨(some 58), .call 15 [(.t 53), (.t 55), (.t 57)], none⟩
  (.fork ⟨(some 51), .ld none (.t 50), none⟩
  (.fork ⟨none, .mset (.one .i64) (.t 49) (.t 51) (.t 58), none⟩
  .done
  .nope)
  .nope)
  .nope))
  .nope))
  .nope)))
  .nope)))
  .nope)))
  .nope)))))))
abbrev c9_35 : AC := .cond (.t 72) c9_33 c9_34
abbrev c9_36 : AC := .seq c9_32 c9_35
abbrev c9_37 : AC := .cond (.t 66) c9_31 c9_36
abbrev c9_38 : AC := .seq c9_29 c9_37
abbrev c9_39 : AC := .cond (.t 59) c9_28 c9_38
abbrev c9_40 : AC := .seq c9_27 c9_39
abbrev c9_41 : AC := .block 4 c9_40
abbrev c9_42 : AC := .seq c9_26 c9_41
abbrev c9_43 : AC := .seq c9_25 c9_42
abbrev c9_44 : AC := .block 3 c9_43
abbrev c9_45 : AC := .reg [⟨(some 81), .bin .add (.t 38) (.k (.I 1)), none⟩,
  ⟨(some 38), .mv (.t 81), none⟩] false
abbrev c9_46 : AC := .seq c9_44 c9_45
abbrev c9_47 : AC := .seq c9_24 c9_46
abbrev c9_48 : AC := .seq c9_23 c9_47
abbrev c9_49 : AC := .loop c9_48
abbrev c9_50 : AC := .block 2 c9_49
abbrev c9_51 : AC := .seq c9_22 c9_50
abbrev c9_52 : AC := .reg [⟨(some 82), .mv (.t 6), none⟩,
  ⟨(some 83), .mlen (.t 82), none⟩,
  ⟨(some 84), .bin .gtr (.t 83) (.k (.I 64)), none⟩] false
abbrev c9_53 : AC := .reg [⟨(some 4), .mv (.k (.c .nil)), none⟩,
  ⟨(some 5), .mv (.k (.I 6)), none⟩] false
abbrev c9_54 : AC := .seq c9_53 .ret
abbrev c9_55 : AC := .cond (.t 84) c9_54 .skip
abbrev c9_56 : AC := .seq c9_52 c9_55
abbrev c9_57 : AC := .reg [⟨(some 13), .mv (.k (.c .nil)), none⟩] false
abbrev c9_58 : AC := .reg [⟨(some 85), .mv (.t 6), none⟩,
  ⟨(some 86), .call 20 [(.t 85)], none⟩,
  ⟨(some 87), .call 19 [(.t 86)], none⟩,
  ⟨(some 88), .len (.t 87), none⟩,
  ⟨(some 89), .mv (.k (.I 0)), none⟩] false
abbrev c9_59 : AC := .reg [⟨(some 90), .bin .lss (.t 89) (.t 88), none⟩] false
abbrev c9_60 : AC := .cond (.t 90) .skip (.exit 5)
abbrev c9_61 : AC := .reg [⟨(some 91), .iad 1 (.t 87) (.t 89), none⟩,
  ⟨(some 92), .ld none (.t 91), none⟩,
  ⟨(some 15), .mv (.t 92), none⟩] false
abbrev c9_62 : AC := .reg [⟨(some 93), .mv (.t 13), none⟩,
  ⟨(some 94), .mv (.t 6), none⟩,
  ⟨(some 95), .mv (.t 15), none⟩,
  ⟨(some 96), .look (.one .i64) (.inr [(.sc (.int .i64 0)), (.sc (.int .i64 0)), (.sc (.int .i64 0)), (.sc (.bool false)), (.sc (.bool false))]) false (.t 94) (.t 95), none⟩,
  ⟨(some 97), .bslice 37 5 [(.t 96)], none⟩,
  ⟨(some 98), .app 37 5 32 (.t 93) (.t 97), none⟩,
  ⟨(some 13), .mv (.t 98), none⟩] false
abbrev c9_63 : AC := .seq c9_61 c9_62
abbrev c9_64 : AC := .block 6 c9_63
abbrev c9_65 : AC := .reg [⟨(some 99), .bin .add (.t 89) (.k (.I 1)), none⟩,
  ⟨(some 89), .mv (.t 99), none⟩] false
abbrev c9_66 : AC := .seq c9_64 c9_65
abbrev c9_67 : AC := .seq c9_60 c9_66
abbrev c9_68 : AC := .seq c9_59 c9_67
abbrev c9_69 : AC := .loop c9_68
abbrev c9_70 : AC := .block 5 c9_69
abbrev c9_71 : AC := .seq c9_58 c9_70
abbrev c9_72 : AC := .reg [⟨(some 100), .mv (.t 13), none⟩,
  ⟨(some 4), .mv (.t 100), none⟩,
  ⟨(some 5), .mv (.k (.I 0)), none⟩] false
abbrev c9_73 : AC := .seq c9_72 .ret
abbrev c9_74 : AC := .seq c9_71 c9_73
abbrev c9_75 : AC := .seq c9_57 c9_74
abbrev c9_76 : AC := .seq c9_56 c9_75
abbrev c9_77 : AC := .seq c9_51 c9_76
abbrev c9_78 : AC := .seq c9_21 c9_77
abbrev c9_79 : AC := .seq c9_7 c9_78
abbrev c9_80 : AC := .seq c9_6 c9_79
abbrev c9_81 : AC := .seq c9_1 c9_80
abbrev c9 : AC := c9_81
theorem code9 : fnCode Try.prog 9 = some (c9, [4, 5], 101) := by kernel_rfl
/- coinage/opinion.tableOf -/
abbrev c12_1 : AC := .reg [⟨(some 2), .mv (.k (.c .mn)), none⟩] false
abbrev c12_2 : AC := .reg [⟨(some 6), .mkmap (.one .i64), none⟩,
  ⟨(some 3), .mv (.t 6), none⟩] false
abbrev c12_3 : AC := .reg [⟨(some 7), .mv (.t 0), none⟩,
  ⟨(some 8), .len (.t 7), none⟩,
  ⟨(some 9), .mv (.k (.I 0)), none⟩] false
abbrev c12_4 : AC := .reg [⟨(some 10), .bin .lss (.t 9) (.t 8), none⟩] false
abbrev c12_5 : AC := .cond (.t 10) .skip (.exit 0)
abbrev c12_6 : AC := .reg [⟨(some 11), .iad 2 (.t 7) (.t 9), none⟩,
  ⟨(some 12), .ld (some 2) (.t 11), none⟩,
  ⟨(some 5), .alloc 40 [(.I 0), (.I 0)], none⟩,
  ⟨none, .st (some 2) (.t 5) (.t 12), none⟩] false
abbrev c12_7 : AC := .reg [⟨(some 13), .mv (.t 3), none⟩,
  ⟨(some 14), .fad 0 (.t 5), none⟩,
  ⟨(some 15), .ld none (.t 14), none⟩,
  ⟨(some 16), .fad 1 (.t 5), none⟩,
  ⟨(some 17), .ld none (.t 16), none⟩,
  ⟨(some 18), .build [(.I 0), (.B false)] [(0, 1, (.t 17)), (1, 1, (.k (.B true)))], none⟩,
  ⟨none, .mset (.one .i64) (.t 13) (.t 15) (.t 18), none⟩] false
abbrev c12_8 : AC := .seq c12_6 c12_7
abbrev c12_9 : AC := .block 1 c12_8
abbrev c12_10 : AC := .reg [⟨(some 19), .bin .add (.t 9) (.k (.I 1)), none⟩,
  ⟨(some 9), .mv (.t 19), none⟩] false
abbrev c12_11 : AC := .seq c12_9 c12_10
abbrev c12_12 : AC := .seq c12_5 c12_11
abbrev c12_13 : AC := .seq c12_4 c12_12
abbrev c12_14 : AC := .loop c12_13
abbrev c12_15 : AC := .block 0 c12_14
abbrev c12_16 : AC := .seq c12_3 c12_15
abbrev c12_17 : AC := .reg [⟨(some 20), .mv (.t 3), none⟩,
  ⟨(some 2), .mv (.t 20), none⟩] false
abbrev c12_18 : AC := .seq c12_17 .ret
abbrev c12_19 : AC := .seq c12_16 c12_18
abbrev c12_20 : AC := .seq c12_2 c12_19
abbrev c12_21 : AC := .seq c12_1 c12_20
abbrev c12 : AC := c12_21
theorem code12 : fnCode Try.prog 12 = some (c12, [2], 21) := by kernel_rfl
/- coinage/opinion.keys -/
abbrev c13_1 : AC := .reg [⟨(some 2), .mv (.k (.c .nil)), none⟩] false
abbrev c13_2 : AC := .reg [⟨(some 7), .mkmap (.one .i64), none⟩,
  ⟨(some 3), .mv (.t 7), none⟩] false
abbrev c13_3 : AC := .reg [⟨(some 8), .mv (.t 0), none⟩,
  ⟨(some 9), .len (.t 8), none⟩,
  ⟨(some 10), .mv (.k (.I 0)), none⟩] false
abbrev c13_4 : AC := .reg [⟨(some 11), .bin .lss (.t 10) (.t 9), none⟩] false
abbrev c13_5 : AC := .cond (.t 11) .skip (.exit 0)
abbrev c13_6 : AC := .reg [⟨(some 12), .iad 1 (.t 8) (.t 10), none⟩,
  ⟨(some 13), .ld none (.t 12), none⟩,
  ⟨(some 5), .mv (.t 13), none⟩] false
abbrev c13_7 : AC := .reg [⟨(some 14), .mv (.t 5), none⟩,
  ⟨(some 15), .mrange (.t 14), none⟩] false
abbrev c13_8 : AC := .reg [⟨(some 16), .mnext (.t 15), none⟩,
  ⟨(some 17), .ext (.t 16) 0, none⟩] false
abbrev c13_9 : AC := .cond (.t 17) .skip (.exit 2)
abbrev c13_10 : AC := .reg [⟨(some 18), .mentry (.t 15), none⟩,
  ⟨(some 19), .ext (.t 18) 0, none⟩,
  ⟨(some 6), .mv (.t 19), none⟩] false
abbrev c13_11 : AC := .reg [⟨(some 20), .mv (.t 3), none⟩,
  ⟨(some 21), .mv (.t 6), none⟩,
  ⟨none, .mset (.one .i64) (.t 20) (.t 21) (.k (.B true)), none⟩] false
abbrev c13_12 : AC := .seq c13_10 c13_11
abbrev c13_13 : AC := .block 3 c13_12
abbrev c13_14 : AC := .seq c13_9 c13_13
abbrev c13_15 : AC := .seq c13_8 c13_14
abbrev c13_16 : AC := .loop c13_15
abbrev c13_17 : AC := .block 2 c13_16
abbrev c13_18 : AC := .seq c13_7 c13_17
abbrev c13_19 : AC := .seq c13_6 c13_18
abbrev c13_20 : AC := .block 1 c13_19
abbrev c13_21 : AC := .reg [⟨(some 22), .bin .add (.t 10) (.k (.I 1)), none⟩,
  ⟨(some 10), .mv (.t 22), none⟩] false
abbrev c13_22 : AC := .seq c13_20 c13_21
abbrev c13_23 : AC := .seq c13_5 c13_22
abbrev c13_24 : AC := .seq c13_4 c13_23
abbrev c13_25 : AC := .loop c13_24
abbrev c13_26 : AC := .block 0 c13_25
abbrev c13_27 : AC := .seq c13_3 c13_26
abbrev c13_28 : AC := .reg [⟨(some 23), .mv (.t 3), none⟩,
  ⟨(some 24), .call 21 [(.t 23)], none⟩,
  ⟨(some 25), .call 19 [(.t 24)], none⟩,
  ⟨(some 2), .mv (.t 25), none⟩] false
abbrev c13_29 : AC := .seq c13_28 .ret
abbrev c13_30 : AC := .seq c13_27 c13_29
abbrev c13_31 : AC := .seq c13_2 c13_30
abbrev c13_32 : AC := .seq c13_1 c13_31
abbrev c13 : AC := c13_32
theorem code13 : fnCode Try.prog 13 = some (c13, [2], 26) := by kernel_rfl
/- coinage/opinion.change -/
abbrev c15_1 : AC := .reg [⟨(some 4), .box 47 (some 2) (.t 1), none⟩,
  ⟨(some 5), .box 47 (some 2) (.t 2), none⟩,
  ⟨(some 6), .alloc 37 [(.I 0), (.I 0), (.I 0), (.B false), (.B false)], none⟩] false
abbrev c15_2 : AC := .reg [⟨(some 7), .mv (.t 0), none⟩,
  ⟨(some 8), .fad 0 (.t 4), none⟩,
  ⟨(some 9), .ld none (.t 8), none⟩,
  ⟨(some 10), .fad 0 (.t 5), none⟩,
  ⟨(some 11), .ld none (.t 10), none⟩,
  ⟨(some 12), .fad 1 (.t 4), none⟩,
  ⟨(some 13), .ld none (.t 12), none⟩,
  ⟨(some 14), .fad 1 (.t 5), none⟩,
  ⟨(some 15), .ld none (.t 14), none⟩,
  ⟨(some 16), .build [(.I 0), (.I 0), (.I 0), (.B false), (.B false)] [(0, 1, (.t 7)), (1, 1, (.t 9)), (2, 1, (.t 11)), (3, 1, (.t 13)), (4, 1, (.t 15))], none⟩,
  ⟨none, .st (some 5) (.t 6) (.t 16), none⟩] false
abbrev c15_3 : AC := .seq c15_2 .ret
abbrev c15_4 : AC := .seq c15_1 c15_3
abbrev c15 : AC := c15_4
theorem code15 : fnCode Try.prog 15 = some (c15, [7000006], 17) := by kernel_rfl
/- (coinage/opinion.table).list -/
abbrev c14_1 : AC := .reg [⟨(some 2), .mv (.k (.c .nil)), none⟩] false
abbrev c14_2 : AC := .reg [⟨(some 3), .mv (.k (.c .nil)), none⟩] false
abbrev c14_3 : AC := .reg [⟨(some 6), .mv (.t 0), none⟩,
  ⟨(some 7), .call 22 [(.t 6)], none⟩,
  ⟨(some 8), .call 19 [(.t 7)], none⟩,
  ⟨(some 9), .len (.t 8), none⟩,
  ⟨(some 10), .mv (.k (.I 0)), none⟩] false
abbrev c14_4 : AC := .reg [⟨(some 11), .bin .lss (.t 10) (.t 9), none⟩] false
abbrev c14_5 : AC := .cond (.t 11) .skip (.exit 0)
abbrev c14_6 : AC := .reg [⟨(some 12), .iad 1 (.t 8) (.t 10), none⟩,
  ⟨(some 13), .ld none (.t 12), none⟩,
  ⟨(some 5), .mv (.t 13), none⟩] false
abbrev c14_7 : AC := .reg [⟨(some 14), .mv (.t 0), none⟩,
  ⟨(some 15), .mv (.t 5), none⟩,
  ⟨(some 16), .look (.one .i64) (.inr [(.sc (.int .i64 0)), (.sc (.bool false))]) false (.t 14) (.t 15), none⟩,
  ⟨(some 17), .fld 1 none (.t 16), none⟩] false
abbrev c14_8 : AC := .reg [⟨(some 18), .mv (.t 3), none⟩,
  ⟨(some 19), .mv (.t 5), none⟩,
  ⟨(some 20), .mv (.t 0), none⟩,
  ⟨(some 21), .mv (.t 5), none⟩,
  ⟨(some 22), .look (.one .i64) (.inr [(.sc (.int .i64 0)), (.sc (.bool false))]) false (.t 20) (.t 21), none⟩,
  ⟨(some 23), .fld 0 none (.t 22), none⟩,
  ⟨(some 24), .build [(.I 0), (.I 0)] [(0, 1, (.t 19)), (1, 1, (.t 23))], none⟩,
  ⟨(some 25), .bslice 40 2 [(.t 24)], none⟩,
  ⟨(some 26), .app 40 2 16 (.t 18) (.t 25), none⟩,
  ⟨(some 3), .mv (.t 26), none⟩] false
abbrev c14_9 : AC := .cond (.t 17) c14_8 .skip
abbrev c14_10 : AC := .seq c14_7 c14_9
abbrev c14_11 : AC := .seq c14_6 c14_10
abbrev c14_12 : AC := .block 1 c14_11
abbrev c14_13 : AC := .reg [⟨(some 27), .bin .add (.t 10) (.k (.I 1)), none⟩,
  ⟨(some 10), .mv (.t 27), none⟩] false
abbrev c14_14 : AC := .seq c14_12 c14_13
abbrev c14_15 : AC := .seq c14_5 c14_14
abbrev c14_16 : AC := .seq c14_4 c14_15
abbrev c14_17 : AC := .loop c14_16
abbrev c14_18 : AC := .block 0 c14_17
abbrev c14_19 : AC := .seq c14_3 c14_18
abbrev c14_20 : AC := .reg [⟨(some 28), .mv (.t 3), none⟩,
  ⟨(some 2), .mv (.t 28), none⟩] false
abbrev c14_21 : AC := .seq c14_20 .ret
abbrev c14_22 : AC := .seq c14_19 c14_21
abbrev c14_23 : AC := .seq c14_2 c14_22
abbrev c14_24 : AC := .seq c14_1 c14_23
abbrev c14 : AC := c14_24
theorem code14 : fnCode Try.prog 14 = some (c14, [2], 29) := by kernel_rfl
/- coinage/opinion.after -/
abbrev c18_1 : AC := .reg [⟨(some 1), .box 37 (some 5) (.t 0), none⟩,
  ⟨(some 2), .alloc 47 [(.I 0), (.B false)], none⟩] false
abbrev c18_2 : AC := .reg [⟨(some 3), .fad 2 (.t 1), none⟩,
  ⟨(some 4), .ld none (.t 3), none⟩,
  ⟨(some 5), .fad 4 (.t 1), none⟩,
  ⟨(some 6), .ld none (.t 5), none⟩,
  ⟨(some 7), .build [(.I 0), (.B false)] [(0, 1, (.t 4)), (1, 1, (.t 6))], none⟩,
  ⟨none, .st (some 2) (.t 2) (.t 7), none⟩] false
abbrev c18_3 : AC := .seq c18_2 .ret
abbrev c18_4 : AC := .seq c18_1 c18_3
abbrev c18 : AC := c18_4
theorem code18 : fnCode Try.prog 18 = some (c18, [4000002], 8) := by kernel_rfl
/- coinage/opinion.before -/
abbrev c17_1 : AC := .reg [⟨(some 1), .box 37 (some 5) (.t 0), none⟩,
  ⟨(some 2), .alloc 47 [(.I 0), (.B false)], none⟩] false
abbrev c17_2 : AC := .reg [⟨(some 3), .fad 1 (.t 1), none⟩,
  ⟨(some 4), .ld none (.t 3), none⟩,
  ⟨(some 5), .fad 3 (.t 1), none⟩,
  ⟨(some 6), .ld none (.t 5), none⟩,
  ⟨(some 7), .build [(.I 0), (.B false)] [(0, 1, (.t 4)), (1, 1, (.t 6))], none⟩,
  ⟨none, .st (some 2) (.t 2) (.t 7), none⟩] false
abbrev c17_3 : AC := .seq c17_2 .ret
abbrev c17_4 : AC := .seq c17_1 c17_3
abbrev c17 : AC := c17_4
theorem code17 : fnCode Try.prog 17 = some (c17, [4000002], 8) := by kernel_rfl

end Go.Proofs.Ythpnplebcmijnaa

