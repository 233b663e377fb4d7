/-
  Lemmas for the proof: no statement of its own.
-/
import Derived.Test.YtlomngideedobaaProg
import Derived.Test.YtlomngideedobaaAlD
import Derived.KernelRfl
set_option linter.unusedVariables false
set_option linter.unusedSimpArgs false
open Go Go.AL
namespace Go.Proofs.Ytlomngideedobaa
/- coinage/coinagelaw14.awake -/
abbrev c10_1 : AC := .reg [⟨(some 0), .mv (.k (.B false)), none⟩] false
abbrev c10_2 : AC := .reg [⟨(some 6), .call 34 [], none⟩,
  ⟨(some 7), .call 19 [(.t 6)], none⟩,
  ⟨(some 5), .mv (.t 7), none⟩,
  ⟨(some 8), .ext (.t 5) 0, none⟩,
  ⟨(some 9), .ext (.t 5) 1, none⟩,
  ⟨(some 1), .mv (.t 8), none⟩,
  ⟨(some 2), .mv (.t 9), none⟩] false
abbrev c10_3 : AC := .reg [⟨(some 11), .call 34 [], none⟩,
  ⟨(some 12), .build [(.I 0), (.I 0)] [(1, 1, (.k (.I 3)))], none⟩,
  ⟨(some 13), .build [(.I 0), (.I 0)] [(0, 1, (.k (.I 1))), (1, 1, (.k (.I 2)))], none⟩,
  ⟨(some 14), .call 13 [(.t 11), (.t 12), (.t 13)], none⟩,
  ⟨(some 10), .mv (.t 14), none⟩,
  ⟨(some 15), .ext (.t 10) 0, none⟩,
  ⟨(some 16), .ext (.t 10) 1, none⟩,
  ⟨(some 3), .mv (.t 15), none⟩,
  ⟨(some 4), .mv (.t 16), none⟩] false
abbrev c10_4 : AC := .reg [⟨(some 17), .mv (.t 2), none⟩,
  ⟨(some 18), .bin .eql (.t 17) (.k (.I 0)), none⟩,
  ⟨(some 19), .mv (.t 18), none⟩,
  ⟨(some 20), .mv (.t 1), (some (19, true))⟩,
  ⟨(some 21), .bslice 3 1 [(.k (.I 0)), (.k (.I 0)), (.k (.I 1)), (.k (.I 0)), (.k (.I 0)), (.k (.I 1))], (some (19, true))⟩,
  ⟨(some 22), .call 16 [(.t 20), (.t 21)], (some (19, true))⟩,
  ⟨(some 23), .pick (.t 19) (.t 22) (.k (.B false)), none⟩,
  ⟨(some 24), .mv (.t 23), none⟩,
  ⟨(some 25), .mv (.t 4), (some (24, true))⟩,
  ⟨(some 26), .bin .eql (.t 25) (.k (.I 0)), (some (24, true))⟩,
  ⟨(some 27), .pick (.t 24) (.t 26) (.k (.B false)), none⟩,
  ⟨(some 28), .mv (.t 27), none⟩,
  ⟨(some 29), .mv (.t 3), (some (28, true))⟩,
  ⟨(some 30), .bslice 3 1 [(.k (.I 5)), (.k (.I 3)), (.k (.I 7))], (some (28, true))⟩,
  ⟨(some 31), .call 16 [(.t 29), (.t 30)], (some (28, true))⟩,
  ⟨(some 32), .pick (.t 28) (.t 31) (.k (.B false)), none⟩,
  ⟨(some 0), .mv (.t 32), none⟩] false
abbrev c10_5 : AC := .seq c10_4 .ret
abbrev c10_6 : AC := .seq c10_3 c10_5
abbrev c10_7 : AC := .seq c10_2 c10_6
abbrev c10_8 : AC := .seq c10_1 c10_7
abbrev c10 : AC := c10_8
theorem code10 : fnCode Try.prog 10 = some (c10, [0], 33) := by kernel_rfl
/- coinage/coinagelaw14.few -/
abbrev c11_1 : AC := .reg [⟨(some 1), .box 25 (some 3) (.t 0), none⟩,
  ⟨(some 2), .mv (.k (.B false)), none⟩] false
abbrev c11_2 : AC := .reg [⟨(some 3), .fad 0 (.t 1), none⟩,
  ⟨(some 4), .ld none (.t 3), none⟩,
  ⟨(some 5), .len (.t 4), none⟩,
  ⟨(some 6), .bin .leq (.t 5) (.k (.I 40)), none⟩,
  ⟨(some 7), .mv (.t 6), none⟩,
  ⟨(some 8), .fad 1 (.t 1), (some (7, true))⟩,
  ⟨(some 9), .ld none (.t 8), (some (7, true))⟩,
  ⟨(some 10), .len (.t 9), (some (7, true))⟩,
  ⟨(some 11), .bin .leq (.t 10) (.k (.I 40)), (some (7, true))⟩,
  ⟨(some 12), .pick (.t 7) (.t 11) (.k (.B false)), none⟩,
  ⟨(some 13), .mv (.t 12), none⟩,
  ⟨(some 14), .fad 2 (.t 1), (some (13, true))⟩,
  ⟨(some 15), .ld none (.t 14), (some (13, true))⟩,
  ⟨(some 16), .len (.t 15), (some (13, true))⟩,
  ⟨(some 17), .bin .leq (.t 16) (.k (.I 70)), (some (13, true))⟩,
  ⟨(some 18), .pick (.t 13) (.t 17) (.k (.B false)), none⟩,
  ⟨(some 2), .mv (.t 18), none⟩] false
abbrev c11_3 : AC := .seq c11_2 .ret
abbrev c11_4 : AC := .seq c11_1 c11_3
abbrev c11 : AC := c11_4
theorem code11 : fnCode Try.prog 11 = some (c11, [2], 19) := by kernel_rfl
/- coinage/component.Distance -/
abbrev c12_1 : AC := .reg [⟨(some 3), .box 25 (some 3) (.t 0), none⟩,
  ⟨(some 4), .box 27 (some 2) (.t 1), none⟩,
  ⟨(some 5), .box 27 (some 2) (.t 2), none⟩,
  ⟨(some 6), .mv (.k (.I 0)), none⟩,
  ⟨(some 7), .mv (.k (.I 0)), none⟩] false
abbrev c12_2 : AC := .reg [⟨(some 11), .ld (some 3) (.t 3), none⟩,
  ⟨(some 12), .ld (some 2) (.t 4), none⟩,
  ⟨(some 13), .ld (some 2) (.t 5), none⟩,
  ⟨(some 14), .call 35 [(.t 11), (.t 12), (.t 13)], none⟩,
  ⟨(some 10), .mv (.t 14), none⟩,
  ⟨(some 15), .ext (.t 10) 0, none⟩,
  ⟨(some 16), .ext (.t 10) 1, none⟩,
  ⟨(some 8), .mv (.t 15), none⟩,
  ⟨(some 9), .mv (.t 16), none⟩] false
abbrev c12_3 : AC := .reg [⟨(some 17), .mv (.t 9), none⟩,
  ⟨(some 18), .bin .neq (.t 17) (.k (.I 0)), none⟩] false
abbrev c12_4 : AC := .reg [⟨(some 19), .mv (.t 9), none⟩,
  ⟨(some 6), .mv (.k (.I 0)), none⟩,
  ⟨(some 7), .mv (.t 19), none⟩] false
abbrev c12_5 : AC := .seq c12_4 .ret
abbrev c12_6 : AC := .cond (.t 18) c12_5 .skip
abbrev c12_7 : AC := .seq c12_3 c12_6
abbrev c12_8 : AC := .reg [⟨(some 20), .mv (.t 8), none⟩,
  ⟨(some 21), .ld (some 2) (.t 5), none⟩,
  ⟨(some 22), .look (.agg [.i64, .i64]) (.inl (.sc (.int .i64 0))) false (.t 20) (.t 21), none⟩,
  ⟨(some 6), .mv (.t 22), none⟩,
  ⟨(some 7), .mv (.k (.I 0)), none⟩] false
abbrev c12_9 : AC := .seq c12_8 .ret
abbrev c12_10 : AC := .seq c12_7 c12_9
abbrev c12_11 : AC := .seq c12_2 c12_10
abbrev c12_12 : AC := .seq c12_1 c12_11
abbrev c12 : AC := c12_12
theorem code12 : fnCode Try.prog 12 = some (c12, [6, 7], 23) := by kernel_rfl
/- coinage/component.Path -/
abbrev c13_1 : AC := .reg [⟨(some 3), .box 25 (some 3) (.t 0), none⟩,
  ⟨(some 4), .box 27 (some 2) (.t 1), none⟩,
  ⟨(some 5), .box 27 (some 2) (.t 2), none⟩,
  ⟨(some 6), .mv (.k (.c .nil)), none⟩,
  ⟨(some 7), .mv (.k (.I 0)), none⟩] false
abbrev c13_2 : AC := .reg [⟨(some 17), .ld (some 3) (.t 3), none⟩,
  ⟨(some 18), .ld (some 2) (.t 5), none⟩,
  ⟨(some 19), .ld (some 2) (.t 4), none⟩,
  ⟨(some 20), .call 35 [(.t 17), (.t 18), (.t 19)], none⟩,
  ⟨(some 16), .mv (.t 20), none⟩,
  ⟨(some 21), .ext (.t 16) 0, none⟩,
  ⟨(some 22), .ext (.t 16) 1, none⟩,
  ⟨(some 8), .mv (.t 21), none⟩,
  ⟨(some 9), .mv (.t 22), none⟩] false
abbrev c13_3 : AC := .reg [⟨(some 23), .mv (.t 9), none⟩,
  ⟨(some 24), .bin .neq (.t 23) (.k (.I 0)), none⟩] false
abbrev c13_4 : AC := .reg [⟨(some 25), .mv (.t 9), none⟩,
  ⟨(some 6), .mv (.k (.c .nil)), none⟩,
  ⟨(some 7), .mv (.t 25), none⟩] false
abbrev c13_5 : AC := .seq c13_4 .ret
abbrev c13_6 : AC := .cond (.t 24) c13_5 .skip
abbrev c13_7 : AC := .seq c13_3 c13_6
abbrev c13_8 : AC := .reg [⟨(some 10), .mv (.k (.c .nil)), none⟩] false
abbrev c13_9 : AC := .reg [⟨(some 26), .ld (some 2) (.t 4), none⟩,
  ⟨(some 11), .alloc 27 [(.I 0), (.I 0)], none⟩,
  ⟨none, .st (some 2) (.t 11) (.t 26), none⟩] false
abbrev c13_10 : AC := .reg [⟨(some 27), .ld (some 2) (.t 11), none⟩,
  ⟨(some 28), .ld (some 2) (.t 5), none⟩,
  ⟨(some 29), .eqs true [false, false] (.t 27) (.t 28), none⟩] false
abbrev c13_11 : AC := .cond (.t 29) .skip (.exit 0)
abbrev c13_12 : AC := .seq c13_10 c13_11
abbrev c13_13 : AC := .reg [⟨(some 30), .fad 2 (.t 3), none⟩,
  ⟨(some 31), .ld none (.t 30), none⟩,
  ⟨(some 32), .len (.t 31), none⟩,
  ⟨(some 33), .mv (.k (.I 0)), none⟩] false
abbrev c13_14 : AC := .reg [⟨(some 34), .bin .lss (.t 33) (.t 32), none⟩] false
abbrev c13_15 : AC := .cond (.t 34) .skip (.exit 2)
abbrev c13_16 : AC := .reg [⟨(some 35), .iad 3 (.t 31) (.t 33), none⟩,
  ⟨(some 36), .ld (some 3) (.t 35), none⟩,
  ⟨(some 13), .alloc 47 [(.I 0), (.I 0), (.I 0)], none⟩,
  ⟨none, .st (some 3) (.t 13) (.t 36), none⟩] false
abbrev c13_17 : AC := .reg [⟨(some 38), .ld (some 3) (.t 13), none⟩,
  ⟨(some 39), .ld (some 2) (.t 11), none⟩,
  ⟨(some 40), .call 36 [(.t 38), (.t 39)], none⟩,
  ⟨(some 37), .mv (.t 40), none⟩,
  ⟨(some 41), .ext (.t 37) 0, none⟩,
  ⟨(some 42), .ext (.t 37) 1, none⟩,
  ⟨(some 14), .alloc 27 [(.I 0), (.I 0)], none⟩,
  ⟨none, .st (some 2) (.t 14) (.t 41), none⟩,
  ⟨(some 15), .mv (.t 42), none⟩] false
abbrev c13_18 : AC := .regD [(⟨(some 43), .mv (.t 15), none⟩, [15]),
  (⟨(some 44), .mv (.t 43), none⟩, [43]),
  (⟨(some 45), .mv (.t 8), (some (44, true))⟩, [8, 44]),
  (⟨(some 46), .ld (some 2) (.t 14), (some (44, true))⟩, [14, 44]),
  (⟨(some 47), .look (.agg [.i64, .i64]) (.inl (.sc (.int .i64 0))) false (.t 45) (.t 46), (some (44, true))⟩, [45, 46, 44]),
  (⟨(some 48), .mv (.t 8), (some (44, true))⟩, [8, 44]),
  (⟨(some 49), .ld (some 2) (.t 11), (some (44, true))⟩, [11, 44]),
  (⟨(some 50), .look (.agg [.i64, .i64]) (.inl (.sc (.int .i64 0))) false (.t 48) (.t 49), (some (44, true))⟩, [48, 49, 44]),
  (⟨(some 51), .bin .sub (.t 50) (.k (.I 1)), (some (44, true))⟩, [50, 44]),
  (⟨(some 52), .bin .eql (.t 47) (.t 51), (some (44, true))⟩, [47, 51, 44]),
  (⟨(some 53), .pick (.t 44) (.t 52) (.k (.B false)), none⟩, [44, 52])]
abbrev c13_19 : AC := .reg [⟨(some 54), .mv (.t 10), none⟩,
  ⟨(some 55), .fad 0 (.t 13), none⟩,
  ⟨(some 56), .ld none (.t 55), none⟩,
  ⟨(some 57), .bslice 3 1 [(.t 56)], none⟩,
  ⟨(some 58), .app 3 1 8 (.t 54) (.t 57), none⟩,
  ⟨(some 10), .mv (.t 58), none⟩] false
abbrev c13_20 : AC := .reg [⟨(some 59), .ld (some 2) (.t 14), none⟩,
  ⟨none, .st (some 2) (.t 11) (.t 59), none⟩] false
abbrev c13_21 : AC := .seq c13_20 (.exit 2)
abbrev c13_22 : AC := .seq c13_19 c13_21
abbrev c13_23 : AC := .cond (.t 53) c13_22 .skip
abbrev c13_24 : AC := .seq c13_18 c13_23
abbrev c13_25 : AC := .seq c13_17 c13_24
abbrev c13_26 : AC := .seq c13_16 c13_25
abbrev c13_27 : AC := .block 3 c13_26
abbrev c13_28 : AC := .reg [⟨(some 60), .bin .add (.t 33) (.k (.I 1)), none⟩,
  ⟨(some 33), .mv (.t 60), none⟩] false
abbrev c13_29 : AC := .seq c13_27 c13_28
abbrev c13_30 : AC := .seq c13_15 c13_29
abbrev c13_31 : AC := .seq c13_14 c13_30
abbrev c13_32 : AC := .loop c13_31
abbrev c13_33 : AC := .block 2 c13_32
abbrev c13_34 : AC := .seq c13_13 c13_33
abbrev c13_35 : AC := .block 1 c13_34
abbrev c13_36 : AC := .reg [⟨(some 61), .ld (some 2) (.t 11), none⟩] false
abbrev c13_37 : AC := .reg [⟨(some 11), .alloc 27 [(.I 0), (.I 0)], none⟩,
  ⟨none, .st (some 2) (.t 11) (.t 61), none⟩] false
abbrev c13_38 : AC := .seq c13_36 c13_37
abbrev c13_39 : AC := .seq c13_35 c13_38
abbrev c13_40 : AC := .seq c13_12 c13_39
abbrev c13_41 : AC := .loop c13_40
abbrev c13_42 : AC := .block 0 c13_41
abbrev c13_43 : AC := .seq c13_9 c13_42
abbrev c13_44 : AC := .reg [⟨(some 62), .mv (.t 10), none⟩,
  ⟨(some 6), .mv (.t 62), none⟩,
  ⟨(some 7), .mv (.k (.I 0)), none⟩] false
abbrev c13_45 : AC := .seq c13_44 .ret
abbrev c13_46 : AC := .seq c13_43 c13_45
abbrev c13_47 : AC := .seq c13_8 c13_46
abbrev c13_48 : AC := .seq c13_7 c13_47
abbrev c13_49 : AC := .seq c13_2 c13_48
abbrev c13_50 : AC := .seq c13_1 c13_49
abbrev c13 : AC := c13_50
theorem code13 : fnCode Try.prog 13 = some (c13, [6, 7], 63) := by kernel_rfl
/- coinage/coinagebase.Ints -/
abbrev c16_1 : AC := .reg [⟨(some 4), .mv (.k (.B false)), none⟩] false
abbrev c16_2 : AC := .reg [⟨(some 6), .mv (.t 0), none⟩,
  ⟨(some 7), .len (.t 6), none⟩,
  ⟨(some 8), .mv (.t 1), none⟩,
  ⟨(some 9), .len (.t 8), none⟩,
  ⟨(some 10), .bin .neq (.t 7) (.t 9), none⟩] false
abbrev c16_3 : AC := .reg [⟨(some 4), .mv (.k (.B false)), none⟩] false
abbrev c16_4 : AC := .seq c16_3 .ret
abbrev c16_5 : AC := .cond (.t 10) c16_4 .skip
abbrev c16_6 : AC := .seq c16_2 c16_5
abbrev c16_7 : AC := .reg [⟨(some 5), .mv (.k (.I 0)), none⟩] false
abbrev c16_8 : AC := .reg [⟨(some 11), .mv (.t 5), none⟩,
  ⟨(some 12), .mv (.t 0), none⟩,
  ⟨(some 13), .len (.t 12), none⟩,
  ⟨(some 14), .bin .lss (.t 11) (.t 13), none⟩] false
abbrev c16_9 : AC := .cond (.t 14) .skip (.exit 0)
abbrev c16_10 : AC := .seq c16_8 c16_9
abbrev c16_11 : AC := .regD [(⟨(some 17), .mv (.t 0), none⟩, [0]),
  (⟨(some 18), .mv (.t 5), none⟩, [5]),
  (⟨(some 19), .iad 1 (.t 17) (.t 18), none⟩, [17, 18]),
  (⟨(some 20), .ld none (.t 19), none⟩, [19]),
  (⟨(some 21), .mv (.t 1), none⟩, [1]),
  (⟨(some 22), .mv (.t 5), none⟩, [5]),
  (⟨(some 23), .iad 1 (.t 21) (.t 22), none⟩, [21, 22]),
  (⟨(some 24), .ld none (.t 23), none⟩, [23]),
  (⟨(some 25), .bin .neq (.t 20) (.t 24), none⟩, [20, 24])]
abbrev c16_12 : AC := .reg [⟨(some 4), .mv (.k (.B false)), none⟩] false
abbrev c16_13 : AC := .seq c16_12 .ret
abbrev c16_14 : AC := .cond (.t 25) c16_13 .skip
abbrev c16_15 : AC := .seq c16_11 c16_14
abbrev c16_16 : AC := .block 1 c16_15
abbrev c16_17 : AC := .reg [⟨(some 15), .mv (.t 5), none⟩,
  ⟨(some 16), .bin .add (.t 15) (.k (.I 1)), none⟩,
  ⟨(some 5), .mv (.t 16), none⟩] false
abbrev c16_18 : AC := .seq c16_16 c16_17
abbrev c16_19 : AC := .seq c16_10 c16_18
abbrev c16_20 : AC := .loop c16_19
abbrev c16_21 : AC := .block 0 c16_20
abbrev c16_22 : AC := .seq c16_7 c16_21
abbrev c16_23 : AC := .reg [⟨(some 4), .mv (.k (.B true)), none⟩] false
abbrev c16_24 : AC := .seq c16_23 .ret
abbrev c16_25 : AC := .seq c16_22 c16_24
abbrev c16_26 : AC := .seq c16_6 c16_25
abbrev c16_27 : AC := .seq c16_1 c16_26
abbrev c16 : AC := c16_27
theorem code16 : fnCode Try.prog 16 = some (c16, [4], 26) := by kernel_rfl
/- coinage/component.Joined -/
abbrev c17_1 : AC := .reg [⟨(some 3), .box 25 (some 3) (.t 0), none⟩,
  ⟨(some 4), .box 27 (some 2) (.t 1), none⟩,
  ⟨(some 5), .box 27 (some 2) (.t 2), none⟩,
  ⟨(some 6), .mv (.k (.B false)), none⟩] false
abbrev c17_2 : AC := .reg [⟨(some 10), .ld (some 3) (.t 3), none⟩,
  ⟨(some 11), .ld (some 2) (.t 4), none⟩,
  ⟨(some 12), .ld (some 2) (.t 5), none⟩,
  ⟨(some 13), .call 35 [(.t 10), (.t 11), (.t 12)], none⟩,
  ⟨(some 9), .mv (.t 13), none⟩,
  ⟨(some 14), .ext (.t 9) 0, none⟩,
  ⟨(some 15), .ext (.t 9) 1, none⟩,
  ⟨(some 7), .mv (.t 14), none⟩,
  ⟨(some 8), .mv (.t 15), none⟩] false
abbrev c17_3 : AC := .reg [⟨(some 16), .mv (.t 8), none⟩,
  ⟨(some 17), .bin .eql (.t 16) (.k (.I 0)), none⟩,
  ⟨(some 6), .mv (.t 17), none⟩] false
abbrev c17_4 : AC := .seq c17_3 .ret
abbrev c17_5 : AC := .seq c17_2 c17_4
abbrev c17_6 : AC := .seq c17_1 c17_5
abbrev c17 : AC := c17_6
theorem code17 : fnCode Try.prog 17 = some (c17, [6], 18) := by kernel_rfl
/- coinage/component.Parts -/
abbrev c19_1 : AC := .reg [⟨(some 1), .box 25 (some 3) (.t 0), none⟩,
  ⟨(some 2), .mv (.k (.c .nil)), none⟩,
  ⟨(some 3), .mv (.k (.I 0)), none⟩] false
abbrev c19_2 : AC := .reg [⟨(some 15), .ld (some 3) (.t 1), none⟩,
  ⟨(some 16), .call 41 [(.t 15)], none⟩,
  ⟨(some 14), .mv (.t 16), none⟩,
  ⟨(some 17), .ext (.t 14) 0, none⟩,
  ⟨(some 18), .ext (.t 14) 1, none⟩,
  ⟨(some 4), .mv (.t 17), none⟩,
  ⟨(some 5), .mv (.t 18), none⟩] false
abbrev c19_3 : AC := .reg [⟨(some 19), .mv (.t 5), none⟩,
  ⟨(some 20), .bin .neq (.t 19) (.k (.I 0)), none⟩] false
abbrev c19_4 : AC := .reg [⟨(some 21), .mv (.t 5), none⟩,
  ⟨(some 2), .mv (.k (.c .nil)), none⟩,
  ⟨(some 3), .mv (.t 21), none⟩] false
abbrev c19_5 : AC := .seq c19_4 .ret
abbrev c19_6 : AC := .cond (.t 20) c19_5 .skip
abbrev c19_7 : AC := .seq c19_3 c19_6
abbrev c19_8 : AC := .reg [⟨(some 22), .mkmap (.agg [.i64, .i64]), none⟩,
  ⟨(some 6), .mv (.t 22), none⟩] false
abbrev c19_9 : AC := .reg [⟨(some 7), .mv (.k (.c .nil)), none⟩] false
abbrev c19_10 : AC := .reg [⟨(some 8), .mv (.k (.I 0)), none⟩] false
abbrev c19_11 : AC := .reg [⟨(some 23), .mv (.t 4), none⟩,
  ⟨(some 24), .len (.t 23), none⟩,
  ⟨(some 25), .mv (.k (.I 0)), none⟩] false
abbrev c19_12 : AC := .reg [⟨(some 26), .bin .lss (.t 25) (.t 24), none⟩] false
abbrev c19_13 : AC := .cond (.t 26) .skip (.exit 0)
abbrev c19_14 : AC := .reg [⟨(some 27), .iad 2 (.t 23) (.t 25), none⟩,
  ⟨(some 28), .ld (some 2) (.t 27), none⟩,
  ⟨(some 10), .alloc 27 [(.I 0), (.I 0)], none⟩,
  ⟨none, .st (some 2) (.t 10) (.t 28), none⟩] false
abbrev c19_15 : AC := .reg [⟨(some 30), .mv (.t 6), none⟩,
  ⟨(some 31), .ld (some 2) (.t 10), none⟩,
  ⟨(some 32), .look (.agg [.i64, .i64]) (.inl (.sc (.int .i64 0))) true (.t 30) (.t 31), none⟩,
  ⟨(some 29), .mv (.t 32), none⟩,
  ⟨(some 33), .ext (.t 29) 0, none⟩,
  ⟨(some 34), .ext (.t 29) 1, none⟩,
  ⟨(some 11), .mv (.t 33), none⟩,
  ⟨(some 12), .mv (.t 34), none⟩] false
abbrev c19_16 : AC := .reg [⟨(some 35), .mv (.t 12), none⟩,
  ⟨(some 36), .not (.t 35), none⟩] false
abbrev c19_17 : AC := .reg [⟨(some 37), .ld (some 3) (.t 1), none⟩,
  ⟨(some 38), .ld (some 2) (.t 10), none⟩,
  ⟨(some 39), .call 42 [(.t 37), (.t 38)], none⟩,
  ⟨(some 40), .mrange (.t 39), none⟩] false
abbrev c19_18 : AC := .reg [⟨(some 41), .mnext (.t 40), none⟩,
  ⟨(some 42), .ext (.t 41) 0, none⟩] false
abbrev c19_19 : AC := .cond (.t 42) .skip (.exit 2)
abbrev c19_20 : AC := .reg [⟨(some 43), .mentry (.t 40), none⟩,
  ⟨(some 44), .ext (.t 43) 0, none⟩,
  ⟨(some 13), .alloc 27 [(.I 0), (.I 0)], none⟩,
  ⟨none, .st (some 2) (.t 13) (.t 44), none⟩] false
abbrev c19_21 : AC := .reg [⟨(some 45), .mv (.t 6), none⟩,
  ⟨(some 46), .ld (some 2) (.t 13), none⟩,
  ⟨(some 47), .mv (.t 8), none⟩,
  ⟨none, .mset (.agg [.i64, .i64]) (.t 45) (.t 46) (.t 47), none⟩] false
abbrev c19_22 : AC := .seq c19_20 c19_21
abbrev c19_23 : AC := .block 3 c19_22
abbrev c19_24 : AC := .seq c19_19 c19_23
abbrev c19_25 : AC := .seq c19_18 c19_24
abbrev c19_26 : AC := .loop c19_25
abbrev c19_27 : AC := .block 2 c19_26
abbrev c19_28 : AC := .seq c19_17 c19_27
abbrev c19_29 : AC := .reg [⟨(some 48), .mv (.t 8), none⟩,
  ⟨(some 49), .bin .add (.t 48) (.k (.I 1)), none⟩,
  ⟨(some 8), .mv (.t 49), none⟩] false
abbrev c19_30 : AC := .seq c19_28 c19_29
abbrev c19_31 : AC := .cond (.t 36) c19_30 .skip
abbrev c19_32 : AC := .seq c19_16 c19_31
abbrev c19_33 : AC := .seq c19_15 c19_32
abbrev c19_34 : AC := .reg [⟨(some 50), .mv (.t 7), none⟩,
  ⟨(some 51), .mv (.t 6), none⟩,
  ⟨(some 52), .ld (some 2) (.t 10), none⟩,
  ⟨(some 53), .look (.agg [.i64, .i64]) (.inl (.sc (.int .i64 0))) false (.t 51) (.t 52), none⟩,
  ⟨(some 54), .bslice 3 1 [(.t 53)], none⟩,
  ⟨(some 55), .app 3 1 8 (.t 50) (.t 54), none⟩,
  ⟨(some 7), .mv (.t 55), none⟩] false
abbrev c19_35 : AC := .seq c19_33 c19_34
abbrev c19_36 : AC := .seq c19_14 c19_35
abbrev c19_37 : AC := .block 1 c19_36
abbrev c19_38 : AC := .reg [⟨(some 56), .bin .add (.t 25) (.k (.I 1)), none⟩,
  ⟨(some 25), .mv (.t 56), none⟩] false
abbrev c19_39 : AC := .seq c19_37 c19_38
abbrev c19_40 : AC := .seq c19_13 c19_39
abbrev c19_41 : AC := .seq c19_12 c19_40
abbrev c19_42 : AC := .loop c19_41
abbrev c19_43 : AC := .block 0 c19_42
abbrev c19_44 : AC := .seq c19_11 c19_43
abbrev c19_45 : AC := .reg [⟨(some 57), .mv (.t 7), none⟩,
  ⟨(some 2), .mv (.t 57), none⟩,
  ⟨(some 3), .mv (.k (.I 0)), none⟩] false
abbrev c19_46 : AC := .seq c19_45 .ret
abbrev c19_47 : AC := .seq c19_44 c19_46
abbrev c19_48 : AC := .seq c19_10 c19_47
abbrev c19_49 : AC := .seq c19_9 c19_48
abbrev c19_50 : AC := .seq c19_8 c19_49
abbrev c19_51 : AC := .seq c19_7 c19_50
abbrev c19_52 : AC := .seq c19_2 c19_51
abbrev c19_53 : AC := .seq c19_1 c19_52
abbrev c19 : AC := c19_53
theorem code19 : fnCode Try.prog 19 = some (c19, [2, 3], 58) := by kernel_rfl
/- coinage/component.Chains -/
abbrev c20_1 : AC := .reg [⟨(some 1), .box 25 (some 3) (.t 0), none⟩,
  ⟨(some 2), .mv (.k (.c .nil)), none⟩,
  ⟨(some 3), .mv (.k (.I 0)), none⟩] false
abbrev c20_2 : AC := .reg [⟨(some 12), .ld (some 3) (.t 1), none⟩,
  ⟨(some 13), .call 19 [(.t 12)], none⟩,
  ⟨(some 11), .mv (.t 13), none⟩,
  ⟨(some 14), .ext (.t 11) 0, none⟩,
  ⟨(some 15), .ext (.t 11) 1, none⟩,
  ⟨(some 4), .mv (.t 14), none⟩,
  ⟨(some 5), .mv (.t 15), none⟩] false
abbrev c20_3 : AC := .reg [⟨(some 16), .mv (.t 5), none⟩,
  ⟨(some 17), .bin .neq (.t 16) (.k (.I 0)), none⟩] false
abbrev c20_4 : AC := .reg [⟨(some 18), .mv (.t 5), none⟩,
  ⟨(some 2), .mv (.k (.c .nil)), none⟩,
  ⟨(some 3), .mv (.t 18), none⟩] false
abbrev c20_5 : AC := .seq c20_4 .ret
abbrev c20_6 : AC := .cond (.t 17) c20_5 .skip
abbrev c20_7 : AC := .seq c20_3 c20_6
abbrev c20_8 : AC := .reg [⟨(some 20), .ld (some 3) (.t 1), none⟩,
  ⟨(some 21), .call 41 [(.t 20)], none⟩,
  ⟨(some 19), .mv (.t 21), none⟩,
  ⟨(some 22), .ext (.t 19) 0, none⟩,
  ⟨(some 23), .ext (.t 19) 1, none⟩,
  ⟨(some 6), .mv (.t 22), none⟩,
  ⟨(some 7), .mv (.t 23), none⟩] false
abbrev c20_9 : AC := .reg [⟨(some 8), .mv (.k (.c .nil)), none⟩] false
abbrev c20_10 : AC := .reg [⟨(some 24), .mv (.t 4), none⟩,
  ⟨(some 25), .len (.t 24), none⟩,
  ⟨(some 26), .mv (.k (.I 0)), none⟩] false
abbrev c20_11 : AC := .reg [⟨(some 27), .bin .lss (.t 26) (.t 25), none⟩] false
abbrev c20_12 : AC := .cond (.t 27) .skip (.exit 0)
abbrev c20_13 : AC := .reg [⟨(some 28), .mv (.t 26), none⟩,
  ⟨(some 29), .iad 1 (.t 24) (.t 26), none⟩,
  ⟨(some 30), .ld none (.t 29), none⟩,
  ⟨(some 9), .mv (.t 28), none⟩,
  ⟨(some 10), .mv (.t 30), none⟩] false
abbrev c20_14 : AC := .reg [⟨(some 31), .mv (.t 10), none⟩,
  ⟨(some 32), .mv (.t 8), none⟩,
  ⟨(some 33), .len (.t 32), none⟩,
  ⟨(some 34), .bin .eql (.t 31) (.t 33), none⟩] false
abbrev c20_15 : AC := .reg [⟨(some 35), .mv (.t 8), none⟩,
  ⟨(some 36), .bslice 54 1 [(.k (.c .nil))], none⟩,
  ⟨(some 37), .app 54 1 24 (.t 35) (.t 36), none⟩,
  ⟨(some 8), .mv (.t 37), none⟩] false
abbrev c20_16 : AC := .cond (.t 34) c20_15 .skip
abbrev c20_17 : AC := .seq c20_14 c20_16
abbrev c20_18 : AC := .regX (.first ⟨(some 38), .mv (.t 8), none⟩
  (.first ⟨(some 39), .mv (.t 10), none⟩
  (.first ⟨(some 40), .mv (.t 8), none⟩
  (.first ⟨(some 41), .mv (.t 10), none⟩
  (.first ⟨(some 42), .iad 1 (.t 40) (.t 41), none⟩
  (.first ⟨(some 44), .mv (.t 6), none⟩
  (.first ⟨(some 45), .mv (.t 9), none⟩
  (.first ⟨(some 46), .iad 2 (.t 44) (.t 45), none⟩
  (.fork ⟨(some 43), .ld none (.t 42), none⟩
  (.fork ⟨(some 47), .ld (some 2) (.t 46), none⟩
  (.fork ⟨(some 48), .bslice 27 2 [(.t 47)], none⟩
  (.fork ⟨(some 49), .app 27 2 16 (.t 43) (.t 48), none⟩
  (.first ⟨(some 50), .iad 1 (.t 38) (.t 39), none⟩
  (.fork ⟨none, .st none (.t 50) (.t 49), none⟩
  .done
  .nope))
  .nope)
  .nope)
  .nope)
  (.fork ⟨(some 47), .ld (some 2) (.t 46), none⟩
  (.fork ⟨(some 43), .ld none (.t 42), none⟩
  (.fork ⟨(some 48), .bslice 27 2 [(.t 47)], none⟩
  (.fork ⟨(some 49), .app 27 2 16 (.t 43) (.t 48), none⟩
  (.first ⟨(some 50), .iad 1 (.t 38) (.t 39), none⟩
  (.fork ⟨none, .st none (.t 50) (.t 49), none⟩
  .done
  .nope))
  .nope)
  .nope)
  (.fork ⟨(some 48), .bslice 27 2 [(.t 47)], none⟩
  (.fork ⟨(some 43), .ld none (.t 42), none⟩
  (.fork ⟨(some 49), .app 27 2 16 (.t 43) (.t 48), none⟩
  (.first ⟨(some 50), .iad 1 (.t 38) (.t 39), none⟩
  (.fork ⟨none, .st none (.t 50) (.t 49), none⟩
  .done
  .nope))
  .nope)
  .nope)
  .nope))
  .nope))))))))))
abbrev c20_19 : AC := .seq c20_17 c20_18
abbrev c20_20 : AC := .seq c20_13 c20_19
abbrev c20_21 : AC := .block 1 c20_20
abbrev c20_22 : AC := .reg [⟨(some 51), .bin .add (.t 26) (.k (.I 1)), none⟩,
  ⟨(some 26), .mv (.t 51), none⟩] false
abbrev c20_23 : AC := .seq c20_21 c20_22
abbrev c20_24 : AC := .seq c20_12 c20_23
abbrev c20_25 : AC := .seq c20_11 c20_24
abbrev c20_26 : AC := .loop c20_25
abbrev c20_27 : AC := .block 0 c20_26
abbrev c20_28 : AC := .seq c20_10 c20_27
abbrev c20_29 : AC := .reg [⟨(some 52), .mv (.t 8), none⟩,
  ⟨(some 2), .mv (.t 52), none⟩,
  ⟨(some 3), .mv (.k (.I 0)), none⟩] false
abbrev c20_30 : AC := .seq c20_29 .ret
abbrev c20_31 : AC := .seq c20_28 c20_30
abbrev c20_32 : AC := .seq c20_9 c20_31
abbrev c20_33 : AC := .seq c20_8 c20_32
abbrev c20_34 : AC := .seq c20_7 c20_33
abbrev c20_35 : AC := .seq c20_2 c20_34
abbrev c20_36 : AC := .seq c20_1 c20_35
abbrev c20 : AC := c20_36
theorem code20 : fnCode Try.prog 20 = some (c20, [2, 3], 53) := by kernel_rfl
/- coinage/component.Loops -/
abbrev c21_1 : AC := .reg [⟨(some 1), .box 25 (some 3) (.t 0), none⟩,
  ⟨(some 2), .mv (.k (.I 0)), none⟩,
  ⟨(some 3), .mv (.k (.I 0)), none⟩] false
abbrev c21_2 : AC := .reg [⟨(some 7), .ld (some 3) (.t 1), none⟩,
  ⟨(some 8), .call 20 [(.t 7)], none⟩,
  ⟨(some 6), .mv (.t 8), none⟩,
  ⟨(some 9), .ext (.t 6) 0, none⟩,
  ⟨(some 10), .ext (.t 6) 1, none⟩,
  ⟨(some 4), .mv (.t 9), none⟩,
  ⟨(some 5), .mv (.t 10), none⟩] false
abbrev c21_3 : AC := .reg [⟨(some 11), .mv (.t 5), none⟩,
  ⟨(some 12), .bin .neq (.t 11) (.k (.I 0)), none⟩] false
abbrev c21_4 : AC := .reg [⟨(some 13), .mv (.t 5), none⟩,
  ⟨(some 2), .mv (.k (.I 0)), none⟩,
  ⟨(some 3), .mv (.t 13), none⟩] false
abbrev c21_5 : AC := .seq c21_4 .ret
abbrev c21_6 : AC := .cond (.t 12) c21_5 .skip
abbrev c21_7 : AC := .seq c21_3 c21_6
abbrev c21_8 : AC := .reg [⟨(some 14), .fad 2 (.t 1), none⟩,
  ⟨(some 15), .ld none (.t 14), none⟩,
  ⟨(some 16), .len (.t 15), none⟩,
  ⟨(some 17), .fad 0 (.t 1), none⟩,
  ⟨(some 18), .ld none (.t 17), none⟩,
  ⟨(some 19), .len (.t 18), none⟩,
  ⟨(some 20), .bin .sub (.t 16) (.t 19), none⟩,
  ⟨(some 21), .fad 1 (.t 1), none⟩,
  ⟨(some 22), .ld none (.t 21), none⟩,
  ⟨(some 23), .len (.t 22), none⟩,
  ⟨(some 24), .bin .sub (.t 20) (.t 23), none⟩,
  ⟨(some 25), .mv (.t 4), none⟩,
  ⟨(some 26), .len (.t 25), none⟩,
  ⟨(some 27), .bin .add (.t 24) (.t 26), none⟩,
  ⟨(some 2), .mv (.t 27), none⟩,
  ⟨(some 3), .mv (.k (.I 0)), none⟩] false
abbrev c21_9 : AC := .seq c21_8 .ret
abbrev c21_10 : AC := .seq c21_7 c21_9
abbrev c21_11 : AC := .seq c21_2 c21_10
abbrev c21_12 : AC := .seq c21_1 c21_11
abbrev c21 : AC := c21_12
theorem code21 : fnCode Try.prog 21 = some (c21, [2, 3], 28) := by kernel_rfl
/- coinage/coinageref14.Parts -/
abbrev c22_1 : AC := .reg [⟨(some 1), .box 25 (some 3) (.t 0), none⟩,
  ⟨(some 2), .mv (.k (.c .nil)), none⟩,
  ⟨(some 3), .mv (.k (.I 0)), none⟩] false
abbrev c22_2 : AC := .reg [⟨(some 13), .ld (some 3) (.t 1), none⟩,
  ⟨(some 14), .call 37 [(.t 13)], none⟩,
  ⟨(some 12), .mv (.t 14), none⟩,
  ⟨(some 15), .ext (.t 12) 0, none⟩,
  ⟨(some 16), .ext (.t 12) 1, none⟩,
  ⟨(some 4), .mv (.t 15), none⟩,
  ⟨(some 5), .mv (.t 16), none⟩] false
abbrev c22_3 : AC := .reg [⟨(some 17), .mv (.t 5), none⟩,
  ⟨(some 18), .bin .neq (.t 17) (.k (.I 0)), none⟩] false
abbrev c22_4 : AC := .reg [⟨(some 19), .mv (.t 5), none⟩,
  ⟨(some 2), .mv (.k (.c .nil)), none⟩,
  ⟨(some 3), .mv (.t 19), none⟩] false
abbrev c22_5 : AC := .seq c22_4 .ret
abbrev c22_6 : AC := .cond (.t 18) c22_5 .skip
abbrev c22_7 : AC := .seq c22_3 c22_6
abbrev c22_8 : AC := .reg [⟨(some 20), .mv (.t 4), none⟩,
  ⟨(some 21), .len (.t 20), none⟩,
  ⟨(some 22), .mks 3 1 8 [(.sc (.int .i64 0))] (.t 21) (.t 21), none⟩,
  ⟨(some 6), .mv (.t 22), none⟩] false
abbrev c22_9 : AC := .reg [⟨(some 7), .mv (.k (.I 0)), none⟩] false
abbrev c22_10 : AC := .reg [⟨(some 23), .mv (.t 7), none⟩,
  ⟨(some 24), .mv (.t 4), none⟩,
  ⟨(some 25), .len (.t 24), none⟩,
  ⟨(some 26), .bin .lss (.t 23) (.t 25), none⟩] false
abbrev c22_11 : AC := .cond (.t 26) .skip (.exit 0)
abbrev c22_12 : AC := .seq c22_10 c22_11
abbrev c22_13 : AC := .reg [⟨(some 29), .mv (.t 6), none⟩,
  ⟨(some 30), .mv (.t 7), none⟩,
  ⟨(some 31), .iad 1 (.t 29) (.t 30), none⟩,
  ⟨none, .st none (.t 31) (.k (.I (-1))), none⟩] false
abbrev c22_14 : AC := .block 1 c22_13
abbrev c22_15 : AC := .reg [⟨(some 27), .mv (.t 7), none⟩,
  ⟨(some 28), .bin .add (.t 27) (.k (.I 1)), none⟩,
  ⟨(some 7), .mv (.t 28), none⟩] false
abbrev c22_16 : AC := .seq c22_14 c22_15
abbrev c22_17 : AC := .seq c22_12 c22_16
abbrev c22_18 : AC := .loop c22_17
abbrev c22_19 : AC := .block 0 c22_18
abbrev c22_20 : AC := .seq c22_9 c22_19
abbrev c22_21 : AC := .reg [⟨(some 8), .mv (.k (.I 0)), none⟩] false
abbrev c22_22 : AC := .reg [⟨(some 9), .mv (.k (.I 0)), none⟩] false
abbrev c22_23 : AC := .reg [⟨(some 32), .mv (.t 9), none⟩,
  ⟨(some 33), .mv (.t 4), none⟩,
  ⟨(some 34), .len (.t 33), none⟩,
  ⟨(some 35), .bin .lss (.t 32) (.t 34), none⟩] false
abbrev c22_24 : AC := .cond (.t 35) .skip (.exit 2)
abbrev c22_25 : AC := .seq c22_23 c22_24
abbrev c22_26 : AC := .reg [⟨(some 38), .mv (.t 6), none⟩,
  ⟨(some 39), .mv (.t 9), none⟩,
  ⟨(some 40), .iad 1 (.t 38) (.t 39), none⟩,
  ⟨(some 41), .ld none (.t 40), none⟩,
  ⟨(some 42), .bin .geq (.t 41) (.k (.I 0)), none⟩] false
abbrev c22_27 : AC := .cond (.t 42) (.exit 3) .skip
abbrev c22_28 : AC := .seq c22_26 c22_27
abbrev c22_29 : AC := .regD [(⟨(some 43), .ld (some 3) (.t 1), none⟩, [1]),
  (⟨(some 44), .mv (.t 4), none⟩, [4]),
  (⟨(some 45), .mv (.t 9), none⟩, [9]),
  (⟨(some 46), .iad 2 (.t 44) (.t 45), none⟩, [44, 45]),
  (⟨(some 47), .ld (some 2) (.t 46), none⟩, [46]),
  (⟨(some 48), .call 38 [(.t 43), (.t 47)], none⟩, [43, 47]),
  (⟨(some 10), .mv (.t 48), none⟩, [48])]
abbrev c22_30 : AC := .reg [⟨(some 11), .mv (.k (.I 0)), none⟩] false
abbrev c22_31 : AC := .reg [⟨(some 49), .mv (.t 11), none⟩,
  ⟨(some 50), .mv (.t 4), none⟩,
  ⟨(some 51), .len (.t 50), none⟩,
  ⟨(some 52), .bin .lss (.t 49) (.t 51), none⟩] false
abbrev c22_32 : AC := .cond (.t 52) .skip (.exit 4)
abbrev c22_33 : AC := .seq c22_31 c22_32
abbrev c22_34 : AC := .reg [⟨(some 55), .mv (.t 10), none⟩,
  ⟨(some 56), .mv (.t 11), none⟩,
  ⟨(some 57), .iad 1 (.t 55) (.t 56), none⟩,
  ⟨(some 58), .ld none (.t 57), none⟩,
  ⟨(some 59), .bin .geq (.t 58) (.k (.I 0)), none⟩] false
abbrev c22_35 : AC := .reg [⟨(some 60), .mv (.t 6), none⟩,
  ⟨(some 61), .mv (.t 11), none⟩,
  ⟨(some 62), .mv (.t 8), none⟩,
  ⟨(some 63), .iad 1 (.t 60) (.t 61), none⟩,
  ⟨none, .st none (.t 63) (.t 62), none⟩] false
abbrev c22_36 : AC := .cond (.t 59) c22_35 .skip
abbrev c22_37 : AC := .seq c22_34 c22_36
abbrev c22_38 : AC := .block 5 c22_37
abbrev c22_39 : AC := .reg [⟨(some 53), .mv (.t 11), none⟩,
  ⟨(some 54), .bin .add (.t 53) (.k (.I 1)), none⟩,
  ⟨(some 11), .mv (.t 54), none⟩] false
abbrev c22_40 : AC := .seq c22_38 c22_39
abbrev c22_41 : AC := .seq c22_33 c22_40
abbrev c22_42 : AC := .loop c22_41
abbrev c22_43 : AC := .block 4 c22_42
abbrev c22_44 : AC := .seq c22_30 c22_43
abbrev c22_45 : AC := .reg [⟨(some 64), .mv (.t 8), none⟩,
  ⟨(some 65), .bin .add (.t 64) (.k (.I 1)), none⟩,
  ⟨(some 8), .mv (.t 65), none⟩] false
abbrev c22_46 : AC := .seq c22_44 c22_45
abbrev c22_47 : AC := .seq c22_29 c22_46
abbrev c22_48 : AC := .seq c22_28 c22_47
abbrev c22_49 : AC := .block 3 c22_48
abbrev c22_50 : AC := .reg [⟨(some 36), .mv (.t 9), none⟩,
  ⟨(some 37), .bin .add (.t 36) (.k (.I 1)), none⟩,
  ⟨(some 9), .mv (.t 37), none⟩] false
abbrev c22_51 : AC := .seq c22_49 c22_50
abbrev c22_52 : AC := .seq c22_25 c22_51
abbrev c22_53 : AC := .loop c22_52
abbrev c22_54 : AC := .block 2 c22_53
abbrev c22_55 : AC := .seq c22_22 c22_54
abbrev c22_56 : AC := .reg [⟨(some 66), .mv (.t 6), none⟩,
  ⟨(some 2), .mv (.t 66), none⟩,
  ⟨(some 3), .mv (.k (.I 0)), none⟩] false
abbrev c22_57 : AC := .seq c22_56 .ret
abbrev c22_58 : AC := .seq c22_55 c22_57
abbrev c22_59 : AC := .seq c22_21 c22_58
abbrev c22_60 : AC := .seq c22_20 c22_59
abbrev c22_61 : AC := .seq c22_8 c22_60
abbrev c22_62 : AC := .seq c22_7 c22_61
abbrev c22_63 : AC := .seq c22_2 c22_62
abbrev c22_64 : AC := .seq c22_1 c22_63
abbrev c22 : AC := c22_64
theorem code22 : fnCode Try.prog 22 = some (c22, [2, 3], 67) := by kernel_rfl
/- coinage/coinageref14.Chains -/
abbrev c23_1 : AC := .reg [⟨(some 1), .box 25 (some 3) (.t 0), none⟩,
  ⟨(some 2), .mv (.k (.c .nil)), none⟩,
  ⟨(some 3), .mv (.k (.I 0)), none⟩] false
abbrev c23_2 : AC := .reg [⟨(some 13), .ld (some 3) (.t 1), none⟩,
  ⟨(some 14), .call 37 [(.t 13)], none⟩,
  ⟨(some 12), .mv (.t 14), none⟩,
  ⟨(some 15), .ext (.t 12) 0, none⟩,
  ⟨(some 16), .ext (.t 12) 1, none⟩,
  ⟨(some 4), .mv (.t 15), none⟩,
  ⟨(some 5), .mv (.t 16), none⟩] false
abbrev c23_3 : AC := .reg [⟨(some 17), .mv (.t 5), none⟩,
  ⟨(some 18), .bin .neq (.t 17) (.k (.I 0)), none⟩] false
abbrev c23_4 : AC := .reg [⟨(some 19), .mv (.t 5), none⟩,
  ⟨(some 2), .mv (.k (.c .nil)), none⟩,
  ⟨(some 3), .mv (.t 19), none⟩] false
abbrev c23_5 : AC := .seq c23_4 .ret
abbrev c23_6 : AC := .cond (.t 18) c23_5 .skip
abbrev c23_7 : AC := .seq c23_3 c23_6
abbrev c23_8 : AC := .reg [⟨(some 21), .ld (some 3) (.t 1), none⟩,
  ⟨(some 22), .call 22 [(.t 21)], none⟩,
  ⟨(some 20), .mv (.t 22), none⟩,
  ⟨(some 23), .ext (.t 20) 0, none⟩,
  ⟨(some 24), .ext (.t 20) 1, none⟩,
  ⟨(some 6), .mv (.t 23), none⟩,
  ⟨(some 7), .mv (.t 24), none⟩] false
abbrev c23_9 : AC := .reg [⟨(some 8), .mv (.k (.c .nil)), none⟩] false
abbrev c23_10 : AC := .reg [⟨(some 9), .mv (.k (.I 0)), none⟩] false
abbrev c23_11 : AC := .reg [⟨(some 25), .mv (.t 9), none⟩,
  ⟨(some 26), .ld (some 3) (.t 1), none⟩,
  ⟨(some 27), .call 43 [(.t 26)], none⟩,
  ⟨(some 28), .bin .lss (.t 25) (.t 27), none⟩] false
abbrev c23_12 : AC := .cond (.t 28) .skip (.exit 0)
abbrev c23_13 : AC := .seq c23_11 c23_12
abbrev c23_14 : AC := .reg [⟨(some 10), .mv (.k (.c .nil)), none⟩] false
abbrev c23_15 : AC := .reg [⟨(some 11), .mv (.k (.I 0)), none⟩] false
abbrev c23_16 : AC := .reg [⟨(some 31), .mv (.t 11), none⟩,
  ⟨(some 32), .mv (.t 4), none⟩,
  ⟨(some 33), .len (.t 32), none⟩,
  ⟨(some 34), .bin .lss (.t 31) (.t 33), none⟩] false
abbrev c23_17 : AC := .cond (.t 34) .skip (.exit 2)
abbrev c23_18 : AC := .seq c23_16 c23_17
abbrev c23_19 : AC := .reg [⟨(some 37), .mv (.t 6), none⟩,
  ⟨(some 38), .mv (.t 11), none⟩,
  ⟨(some 39), .iad 1 (.t 37) (.t 38), none⟩,
  ⟨(some 40), .ld none (.t 39), none⟩,
  ⟨(some 41), .mv (.t 9), none⟩,
  ⟨(some 42), .bin .eql (.t 40) (.t 41), none⟩] false
abbrev c23_20 : AC := .reg [⟨(some 43), .mv (.t 10), none⟩,
  ⟨(some 44), .mv (.t 4), none⟩,
  ⟨(some 45), .mv (.t 11), none⟩,
  ⟨(some 46), .iad 2 (.t 44) (.t 45), none⟩,
  ⟨(some 47), .ld (some 2) (.t 46), none⟩,
  ⟨(some 48), .bslice 27 2 [(.t 47)], none⟩,
  ⟨(some 49), .app 27 2 16 (.t 43) (.t 48), none⟩,
  ⟨(some 10), .mv (.t 49), none⟩] false
abbrev c23_21 : AC := .cond (.t 42) c23_20 .skip
abbrev c23_22 : AC := .seq c23_19 c23_21
abbrev c23_23 : AC := .block 3 c23_22
abbrev c23_24 : AC := .reg [⟨(some 35), .mv (.t 11), none⟩,
  ⟨(some 36), .bin .add (.t 35) (.k (.I 1)), none⟩,
  ⟨(some 11), .mv (.t 36), none⟩] false
abbrev c23_25 : AC := .seq c23_23 c23_24
abbrev c23_26 : AC := .seq c23_18 c23_25
abbrev c23_27 : AC := .loop c23_26
abbrev c23_28 : AC := .block 2 c23_27
abbrev c23_29 : AC := .seq c23_15 c23_28
abbrev c23_30 : AC := .reg [⟨(some 50), .mv (.t 8), none⟩,
  ⟨(some 51), .mv (.t 10), none⟩,
  ⟨(some 52), .bslice 54 1 [(.t 51)], none⟩,
  ⟨(some 53), .app 54 1 24 (.t 50) (.t 52), none⟩,
  ⟨(some 8), .mv (.t 53), none⟩] false
abbrev c23_31 : AC := .seq c23_29 c23_30
abbrev c23_32 : AC := .seq c23_14 c23_31
abbrev c23_33 : AC := .block 1 c23_32
abbrev c23_34 : AC := .reg [⟨(some 29), .mv (.t 9), none⟩,
  ⟨(some 30), .bin .add (.t 29) (.k (.I 1)), none⟩,
  ⟨(some 9), .mv (.t 30), none⟩] false
abbrev c23_35 : AC := .seq c23_33 c23_34
abbrev c23_36 : AC := .seq c23_13 c23_35
abbrev c23_37 : AC := .loop c23_36
abbrev c23_38 : AC := .block 0 c23_37
abbrev c23_39 : AC := .seq c23_10 c23_38
abbrev c23_40 : AC := .reg [⟨(some 54), .mv (.t 8), none⟩,
  ⟨(some 2), .mv (.t 54), none⟩,
  ⟨(some 3), .mv (.k (.I 0)), none⟩] false
abbrev c23_41 : AC := .seq c23_40 .ret
abbrev c23_42 : AC := .seq c23_39 c23_41
abbrev c23_43 : AC := .seq c23_9 c23_42
abbrev c23_44 : AC := .seq c23_8 c23_43
abbrev c23_45 : AC := .seq c23_7 c23_44
abbrev c23_46 : AC := .seq c23_2 c23_45
abbrev c23_47 : AC := .seq c23_1 c23_46
abbrev c23 : AC := c23_47
theorem code23 : fnCode Try.prog 23 = some (c23, [2, 3], 55) := by kernel_rfl
/- coinage/coinageref14.Loops -/
abbrev c24_1 : AC := .reg [⟨(some 1), .box 25 (some 3) (.t 0), none⟩,
  ⟨(some 2), .mv (.k (.I 0)), none⟩,
  ⟨(some 3), .mv (.k (.I 0)), none⟩] false
abbrev c24_2 : AC := .reg [⟨(some 7), .ld (some 3) (.t 1), none⟩,
  ⟨(some 8), .call 37 [(.t 7)], none⟩,
  ⟨(some 6), .mv (.t 8), none⟩,
  ⟨(some 9), .ext (.t 6) 0, none⟩,
  ⟨(some 10), .ext (.t 6) 1, none⟩,
  ⟨(some 4), .mv (.t 9), none⟩,
  ⟨(some 5), .mv (.t 10), none⟩] false
abbrev c24_3 : AC := .reg [⟨(some 11), .mv (.t 5), none⟩,
  ⟨(some 12), .bin .neq (.t 11) (.k (.I 0)), none⟩] false
abbrev c24_4 : AC := .reg [⟨(some 13), .mv (.t 5), none⟩,
  ⟨(some 2), .mv (.k (.I 0)), none⟩,
  ⟨(some 3), .mv (.t 13), none⟩] false
abbrev c24_5 : AC := .seq c24_4 .ret
abbrev c24_6 : AC := .cond (.t 12) c24_5 .skip
abbrev c24_7 : AC := .seq c24_3 c24_6
abbrev c24_8 : AC := .regD [(⟨(some 14), .fad 2 (.t 1), none⟩, [1]),
  (⟨(some 15), .ld none (.t 14), none⟩, [14]),
  (⟨(some 16), .len (.t 15), none⟩, [15]),
  (⟨(some 17), .mv (.t 4), none⟩, [4]),
  (⟨(some 18), .len (.t 17), none⟩, [17]),
  (⟨(some 19), .bin .sub (.t 16) (.t 18), none⟩, [16, 18]),
  (⟨(some 20), .ld (some 3) (.t 1), none⟩, [1]),
  (⟨(some 21), .call 43 [(.t 20)], none⟩, [20]),
  (⟨(some 22), .bin .add (.t 19) (.t 21), none⟩, [19, 21]),
  (⟨(some 2), .mv (.t 22), none⟩, [22]),
  (⟨(some 3), .mv (.k (.I 0)), none⟩, [])]
abbrev c24_9 : AC := .seq c24_8 .ret
abbrev c24_10 : AC := .seq c24_7 c24_9
abbrev c24_11 : AC := .seq c24_2 c24_10
abbrev c24_12 : AC := .seq c24_1 c24_11
abbrev c24 : AC := c24_12
theorem code24 : fnCode Try.prog 24 = some (c24, [2, 3], 23) := by kernel_rfl
/- coinage/coinagebase.Chains -/
abbrev c25_1 : AC := .reg [⟨(some 4), .mv (.k (.B false)), none⟩] false
abbrev c25_2 : AC := .reg [⟨(some 6), .mv (.t 0), none⟩,
  ⟨(some 7), .len (.t 6), none⟩,
  ⟨(some 8), .mv (.t 1), none⟩,
  ⟨(some 9), .len (.t 8), none⟩,
  ⟨(some 10), .bin .neq (.t 7) (.t 9), none⟩] false
abbrev c25_3 : AC := .reg [⟨(some 4), .mv (.k (.B false)), none⟩] false
abbrev c25_4 : AC := .seq c25_3 .ret
abbrev c25_5 : AC := .cond (.t 10) c25_4 .skip
abbrev c25_6 : AC := .seq c25_2 c25_5
abbrev c25_7 : AC := .reg [⟨(some 5), .mv (.k (.I 0)), none⟩] false
abbrev c25_8 : AC := .reg [⟨(some 11), .mv (.t 5), none⟩,
  ⟨(some 12), .mv (.t 0), none⟩,
  ⟨(some 13), .len (.t 12), none⟩,
  ⟨(some 14), .bin .lss (.t 11) (.t 13), none⟩] false
abbrev c25_9 : AC := .cond (.t 14) .skip (.exit 0)
abbrev c25_10 : AC := .seq c25_8 c25_9
abbrev c25_11 : AC := .regD [(⟨(some 17), .mv (.t 0), none⟩, [0]),
  (⟨(some 18), .mv (.t 5), none⟩, [5]),
  (⟨(some 19), .iad 1 (.t 17) (.t 18), none⟩, [17, 18]),
  (⟨(some 20), .ld none (.t 19), none⟩, [19]),
  (⟨(some 21), .mv (.t 1), none⟩, [1]),
  (⟨(some 22), .mv (.t 5), none⟩, [5]),
  (⟨(some 23), .iad 1 (.t 21) (.t 22), none⟩, [21, 22]),
  (⟨(some 24), .ld none (.t 23), none⟩, [23]),
  (⟨(some 25), .call 44 [(.t 20), (.t 24)], none⟩, [20, 24]),
  (⟨(some 26), .not (.t 25), none⟩, [25])]
abbrev c25_12 : AC := .reg [⟨(some 4), .mv (.k (.B false)), none⟩] false
abbrev c25_13 : AC := .seq c25_12 .ret
abbrev c25_14 : AC := .cond (.t 26) c25_13 .skip
abbrev c25_15 : AC := .seq c25_11 c25_14
abbrev c25_16 : AC := .block 1 c25_15
abbrev c25_17 : AC := .reg [⟨(some 15), .mv (.t 5), none⟩,
  ⟨(some 16), .bin .add (.t 15) (.k (.I 1)), none⟩,
  ⟨(some 5), .mv (.t 16), none⟩] false
abbrev c25_18 : AC := .seq c25_16 c25_17
abbrev c25_19 : AC := .seq c25_10 c25_18
abbrev c25_20 : AC := .loop c25_19
abbrev c25_21 : AC := .block 0 c25_20
abbrev c25_22 : AC := .seq c25_7 c25_21
abbrev c25_23 : AC := .reg [⟨(some 4), .mv (.k (.B true)), none⟩] false
abbrev c25_24 : AC := .seq c25_23 .ret
abbrev c25_25 : AC := .seq c25_22 c25_24
abbrev c25_26 : AC := .seq c25_6 c25_25
abbrev c25_27 : AC := .seq c25_1 c25_26
abbrev c25 : AC := c25_27
theorem code25 : fnCode Try.prog 25 = some (c25, [4], 27) := by kernel_rfl
/- coinage/coinageref13.Valid -/
abbrev c26_1 : AC := .reg [⟨(some 1), .box 25 (some 3) (.t 0), none⟩,
  ⟨(some 2), .mv (.k (.B false)), none⟩] false
abbrev c26_2 : AC := .reg [⟨(some 3), .ld (some 3) (.t 1), none⟩,
  ⟨(some 4), .call 45 [(.t 3)], none⟩,
  ⟨(some 2), .mv (.t 4), none⟩] false
abbrev c26_3 : AC := .seq c26_2 .ret
abbrev c26_4 : AC := .seq c26_1 c26_3
abbrev c26 : AC := c26_4
theorem code26 : fnCode Try.prog 26 = some (c26, [2], 5) := by kernel_rfl
/- coinage/coinagebase.Mod -/
abbrev c27_1 : AC := .reg [⟨(some 4), .mv (.k (.I 0)), none⟩] false
abbrev c27_2 : AC := .reg [⟨(some 6), .mv (.t 0), none⟩,
  ⟨(some 7), .mv (.t 1), none⟩,
  ⟨(some 8), .bin .rem (.t 6) (.t 7), none⟩,
  ⟨(some 5), .mv (.t 8), none⟩] false
abbrev c27_3 : AC := .reg [⟨(some 9), .mv (.t 5), none⟩,
  ⟨(some 10), .bin .lss (.t 9) (.k (.I 0)), none⟩] false
abbrev c27_4 : AC := .reg [⟨(some 11), .mv (.t 5), none⟩,
  ⟨(some 12), .mv (.t 1), none⟩,
  ⟨(some 13), .bin .add (.t 11) (.t 12), none⟩,
  ⟨(some 5), .mv (.t 13), none⟩] false
abbrev c27_5 : AC := .cond (.t 10) c27_4 .skip
abbrev c27_6 : AC := .seq c27_3 c27_5
abbrev c27_7 : AC := .reg [⟨(some 14), .mv (.t 5), none⟩,
  ⟨(some 4), .mv (.t 14), none⟩] false
abbrev c27_8 : AC := .seq c27_7 .ret
abbrev c27_9 : AC := .seq c27_6 c27_8
abbrev c27_10 : AC := .seq c27_2 c27_9
abbrev c27_11 : AC := .seq c27_1 c27_10
abbrev c27 : AC := c27_11
theorem code27 : fnCode Try.prog 27 = some (c27, [4], 15) := by kernel_rfl
/- coinage/coinageref13.Made -/
abbrev c28_1 : AC := .reg [⟨(some 2), .alloc 25 [(.c .nil), (.c .nil), (.c .nil)], none⟩] false
abbrev c28_2 : AC := .reg [⟨(some 3), .alloc 25 [(.c .nil), (.c .nil), (.c .nil)], none⟩] false
abbrev c28_3 : AC := .reg [⟨(some 4), .mv (.k (.I 0)), none⟩] false
abbrev c28_4 : AC := .reg [⟨(some 5), .mv (.t 4), none⟩,
  ⟨(some 6), .mv (.t 0), none⟩,
  ⟨(some 7), .len (.t 6), none⟩,
  ⟨(some 8), .bin .lss (.t 5) (.t 7), none⟩] false
abbrev c28_5 : AC := .cond (.t 8) .skip (.exit 0)
abbrev c28_6 : AC := .seq c28_4 c28_5
abbrev c28_7 : AC := .regX (.first ⟨(some 11), .fad 0 (.t 3), none⟩
  (.first ⟨(some 13), .mv (.t 0), none⟩
  (.first ⟨(some 14), .mv (.t 4), none⟩
  (.first ⟨(some 15), .iad 3 (.t 13) (.t 14), none⟩
  (.first ⟨(some 16), .fad 1 (.t 15), none⟩
  (.fork ⟨(some 12), .ld none (.t 11), none⟩
  (.fork ⟨(some 17), .ld none (.t 16), none⟩
  (.fork ⟨(some 18), .call 46 [(.t 12), (.t 17)], none⟩
  (.first ⟨(some 19), .fad 0 (.t 3), none⟩
  (.fork ⟨none, .st none (.t 19) (.t 18), none⟩
  .done
  .nope))
  .nope)
  .nope)
  (.fork ⟨(some 17), .ld none (.t 16), none⟩
  (.fork ⟨(some 12), .ld none (.t 11), none⟩
  (.fork ⟨(some 18), .call 46 [(.t 12), (.t 17)], none⟩
  (.first ⟨(some 19), .fad 0 (.t 3), none⟩
  (.fork ⟨none, .st none (.t 19) (.t 18), none⟩
  .done
  .nope))
  .nope)
  .nope)
  .nope)))))))
abbrev c28_8 : AC := .regX (.first ⟨(some 20), .fad 1 (.t 3), none⟩
  (.first ⟨(some 22), .mv (.t 0), none⟩
  (.first ⟨(some 23), .mv (.t 4), none⟩
  (.first ⟨(some 24), .iad 3 (.t 22) (.t 23), none⟩
  (.first ⟨(some 25), .fad 2 (.t 24), none⟩
  (.fork ⟨(some 21), .ld none (.t 20), none⟩
  (.fork ⟨(some 26), .ld none (.t 25), none⟩
  (.fork ⟨(some 27), .call 46 [(.t 21), (.t 26)], none⟩
  (.first ⟨(some 28), .fad 1 (.t 3), none⟩
  (.fork ⟨none, .st none (.t 28) (.t 27), none⟩
  .done
  .nope))
  .nope)
  .nope)
  (.fork ⟨(some 26), .ld none (.t 25), none⟩
  (.fork ⟨(some 21), .ld none (.t 20), none⟩
  (.fork ⟨(some 27), .call 46 [(.t 21), (.t 26)], none⟩
  (.first ⟨(some 28), .fad 1 (.t 3), none⟩
  (.fork ⟨none, .st none (.t 28) (.t 27), none⟩
  .done
  .nope))
  .nope)
  .nope)
  .nope)))))))
abbrev c28_9 : AC := .regX (.first ⟨(some 29), .fad 2 (.t 3), none⟩
  (.first ⟨(some 31), .mv (.t 0), none⟩
  (.first ⟨(some 32), .mv (.t 4), none⟩
  (.first ⟨(some 33), .iad 3 (.t 31) (.t 32), none⟩
  (.fork ⟨(some 30), .ld none (.t 29), none⟩
  (.fork ⟨(some 34), .ld (some 3) (.t 33), none⟩
  (.fork ⟨(some 35), .call 47 [(.t 30), (.t 34)], none⟩
  (.first ⟨(some 36), .fad 2 (.t 3), none⟩
  (.fork ⟨none, .st none (.t 36) (.t 35), none⟩
  .done
  .nope))
  .nope)
  .nope)
  (.fork ⟨(some 34), .ld (some 3) (.t 33), none⟩
  (.fork ⟨(some 30), .ld none (.t 29), none⟩
  (.fork ⟨(some 35), .call 47 [(.t 30), (.t 34)], none⟩
  (.first ⟨(some 36), .fad 2 (.t 3), none⟩
  (.fork ⟨none, .st none (.t 36) (.t 35), none⟩
  .done
  .nope))
  .nope)
  .nope)
  .nope))))))
abbrev c28_10 : AC := .seq c28_8 c28_9
abbrev c28_11 : AC := .seq c28_7 c28_10
abbrev c28_12 : AC := .block 1 c28_11
abbrev c28_13 : AC := .reg [⟨(some 9), .mv (.t 4), none⟩,
  ⟨(some 10), .bin .add (.t 9) (.k (.I 1)), none⟩,
  ⟨(some 4), .mv (.t 10), none⟩] false
abbrev c28_14 : AC := .seq c28_12 c28_13
abbrev c28_15 : AC := .seq c28_6 c28_14
abbrev c28_16 : AC := .loop c28_15
abbrev c28_17 : AC := .block 0 c28_16
abbrev c28_18 : AC := .seq c28_3 c28_17
abbrev c28_19 : AC := .reg [⟨(some 37), .ld (some 3) (.t 3), none⟩,
  ⟨none, .st (some 3) (.t 2) (.t 37), none⟩] false
abbrev c28_20 : AC := .seq c28_19 .ret
abbrev c28_21 : AC := .seq c28_18 c28_20
abbrev c28_22 : AC := .seq c28_2 c28_21
abbrev c28_23 : AC := .seq c28_1 c28_22
abbrev c28 : AC := c28_23
theorem code28 : fnCode Try.prog 28 = some (c28, [5000002], 38) := by kernel_rfl
/- coinage/component.Part -/
abbrev c29_1 : AC := .reg [⟨(some 2), .box 25 (some 3) (.t 0), none⟩,
  ⟨(some 4), .alloc 25 [(.c .nil), (.c .nil), (.c .nil)], none⟩,
  ⟨(some 5), .mv (.k (.I 0)), none⟩] false
abbrev c29_2 : AC := .reg [⟨(some 14), .ld (some 3) (.t 2), none⟩,
  ⟨(some 15), .call 20 [(.t 14)], none⟩,
  ⟨(some 13), .mv (.t 15), none⟩,
  ⟨(some 16), .ext (.t 13) 0, none⟩,
  ⟨(some 17), .ext (.t 13) 1, none⟩,
  ⟨(some 6), .mv (.t 16), none⟩,
  ⟨(some 7), .mv (.t 17), none⟩] false
abbrev c29_3 : AC := .reg [⟨(some 18), .mv (.t 7), none⟩,
  ⟨(some 19), .bin .neq (.t 18) (.k (.I 0)), none⟩] false
abbrev c29_4 : AC := .reg [⟨(some 20), .build [(.c .nil), (.c .nil), (.c .nil)] [], none⟩,
  ⟨(some 21), .mv (.t 7), none⟩,
  ⟨none, .st (some 3) (.t 4) (.t 20), none⟩,
  ⟨(some 5), .mv (.t 21), none⟩] false
abbrev c29_5 : AC := .seq c29_4 .ret
abbrev c29_6 : AC := .cond (.t 19) c29_5 .skip
abbrev c29_7 : AC := .seq c29_3 c29_6
abbrev c29_8 : AC := .reg [⟨(some 22), .mv (.t 1), none⟩,
  ⟨(some 23), .bin .lss (.t 22) (.k (.I 0)), none⟩,
  ⟨(some 24), .mv (.t 23), none⟩,
  ⟨(some 25), .mv (.t 1), (some (24, false))⟩,
  ⟨(some 26), .mv (.t 6), (some (24, false))⟩,
  ⟨(some 27), .len (.t 26), (some (24, false))⟩,
  ⟨(some 28), .bin .geq (.t 25) (.t 27), (some (24, false))⟩,
  ⟨(some 29), .pick (.t 24) (.k (.B true)) (.t 28), none⟩] false
abbrev c29_9 : AC := .reg [⟨(some 30), .build [(.c .nil), (.c .nil), (.c .nil)] [], none⟩,
  ⟨none, .st (some 3) (.t 4) (.t 30), none⟩,
  ⟨(some 5), .mv (.k (.I 7)), none⟩] false
abbrev c29_10 : AC := .seq c29_9 .ret
abbrev c29_11 : AC := .cond (.t 29) c29_10 .skip
abbrev c29_12 : AC := .seq c29_8 c29_11
abbrev c29_13 : AC := .reg [⟨(some 8), .alloc 25 [(.c .nil), (.c .nil), (.c .nil)], none⟩] false
abbrev c29_14 : AC := .reg [⟨(some 31), .mv (.t 6), none⟩,
  ⟨(some 32), .mv (.t 1), none⟩,
  ⟨(some 33), .iad 1 (.t 31) (.t 32), none⟩,
  ⟨(some 34), .ld none (.t 33), none⟩,
  ⟨(some 35), .len (.t 34), none⟩,
  ⟨(some 36), .mv (.k (.I 0)), none⟩] false
abbrev c29_15 : AC := .reg [⟨(some 37), .bin .lss (.t 36) (.t 35), none⟩] false
abbrev c29_16 : AC := .cond (.t 37) .skip (.exit 0)
abbrev c29_17 : AC := .reg [⟨(some 38), .iad 2 (.t 34) (.t 36), none⟩,
  ⟨(some 39), .ld (some 2) (.t 38), none⟩,
  ⟨(some 10), .alloc 27 [(.I 0), (.I 0)], none⟩,
  ⟨none, .st (some 2) (.t 10) (.t 39), none⟩] false
abbrev c29_18 : AC := .reg [⟨(some 40), .fad 0 (.t 10), none⟩,
  ⟨(some 41), .ld none (.t 40), none⟩,
  ⟨(some 42), .bin .eql (.t 41) (.k (.I 0)), none⟩] false
abbrev c29_19 : AC := .reg [⟨(some 43), .fad 0 (.t 8), none⟩,
  ⟨(some 44), .ld none (.t 43), none⟩,
  ⟨(some 45), .fad 1 (.t 10), none⟩,
  ⟨(some 46), .ld none (.t 45), none⟩,
  ⟨(some 47), .bslice 3 1 [(.t 46)], none⟩,
  ⟨(some 48), .app 3 1 8 (.t 44) (.t 47), none⟩,
  ⟨(some 49), .fad 0 (.t 8), none⟩,
  ⟨none, .st none (.t 49) (.t 48), none⟩] false
abbrev c29_20 : AC := .reg [⟨(some 50), .fad 1 (.t 8), none⟩,
  ⟨(some 51), .ld none (.t 50), none⟩,
  ⟨(some 52), .fad 1 (.t 10), none⟩,
  ⟨(some 53), .ld none (.t 52), none⟩,
  ⟨(some 54), .bslice 3 1 [(.t 53)], none⟩,
  ⟨(some 55), .app 3 1 8 (.t 51) (.t 54), none⟩,
  ⟨(some 56), .fad 1 (.t 8), none⟩,
  ⟨none, .st none (.t 56) (.t 55), none⟩] false
abbrev c29_21 : AC := .cond (.t 42) c29_19 c29_20
abbrev c29_22 : AC := .seq c29_18 c29_21
abbrev c29_23 : AC := .seq c29_17 c29_22
abbrev c29_24 : AC := .block 1 c29_23
abbrev c29_25 : AC := .reg [⟨(some 57), .bin .add (.t 36) (.k (.I 1)), none⟩,
  ⟨(some 36), .mv (.t 57), none⟩] false
abbrev c29_26 : AC := .seq c29_24 c29_25
abbrev c29_27 : AC := .seq c29_16 c29_26
abbrev c29_28 : AC := .seq c29_15 c29_27
abbrev c29_29 : AC := .loop c29_28
abbrev c29_30 : AC := .block 0 c29_29
abbrev c29_31 : AC := .seq c29_14 c29_30
abbrev c29_32 : AC := .reg [⟨(some 58), .fad 2 (.t 2), none⟩,
  ⟨(some 59), .ld none (.t 58), none⟩,
  ⟨(some 60), .len (.t 59), none⟩,
  ⟨(some 61), .mv (.k (.I 0)), none⟩] false
abbrev c29_33 : AC := .reg [⟨(some 62), .bin .lss (.t 61) (.t 60), none⟩] false
abbrev c29_34 : AC := .cond (.t 62) .skip (.exit 2)
abbrev c29_35 : AC := .reg [⟨(some 63), .iad 3 (.t 59) (.t 61), none⟩,
  ⟨(some 64), .ld (some 3) (.t 63), none⟩,
  ⟨(some 12), .alloc 47 [(.I 0), (.I 0), (.I 0)], none⟩,
  ⟨none, .st (some 3) (.t 12) (.t 64), none⟩] false
abbrev c29_36 : AC := .reg [⟨(some 65), .fad 0 (.t 8), none⟩,
  ⟨(some 66), .ld none (.t 65), none⟩,
  ⟨(some 67), .fad 1 (.t 12), none⟩,
  ⟨(some 68), .ld none (.t 67), none⟩,
  ⟨(some 69), .call 48 [(.t 66), (.t 68)], none⟩] false
abbrev c29_37 : AC := .reg [⟨(some 70), .fad 2 (.t 8), none⟩,
  ⟨(some 71), .ld none (.t 70), none⟩,
  ⟨(some 72), .ld (some 3) (.t 12), none⟩,
  ⟨(some 73), .bslice 47 3 [(.t 72)], none⟩,
  ⟨(some 74), .app 47 3 24 (.t 71) (.t 73), none⟩,
  ⟨(some 75), .fad 2 (.t 8), none⟩,
  ⟨none, .st none (.t 75) (.t 74), none⟩] false
abbrev c29_38 : AC := .cond (.t 69) c29_37 .skip
abbrev c29_39 : AC := .seq c29_36 c29_38
abbrev c29_40 : AC := .seq c29_35 c29_39
abbrev c29_41 : AC := .block 3 c29_40
abbrev c29_42 : AC := .reg [⟨(some 76), .bin .add (.t 61) (.k (.I 1)), none⟩,
  ⟨(some 61), .mv (.t 76), none⟩] false
abbrev c29_43 : AC := .seq c29_41 c29_42
abbrev c29_44 : AC := .seq c29_34 c29_43
abbrev c29_45 : AC := .seq c29_33 c29_44
abbrev c29_46 : AC := .loop c29_45
abbrev c29_47 : AC := .block 2 c29_46
abbrev c29_48 : AC := .seq c29_32 c29_47
abbrev c29_49 : AC := .reg [⟨(some 77), .ld (some 3) (.t 8), none⟩,
  ⟨none, .st (some 3) (.t 4) (.t 77), none⟩,
  ⟨(some 5), .mv (.k (.I 0)), none⟩] false
abbrev c29_50 : AC := .seq c29_49 .ret
abbrev c29_51 : AC := .seq c29_48 c29_50
abbrev c29_52 : AC := .seq c29_31 c29_51
abbrev c29_53 : AC := .seq c29_13 c29_52
abbrev c29_54 : AC := .seq c29_12 c29_53
abbrev c29_55 : AC := .seq c29_7 c29_54
abbrev c29_56 : AC := .seq c29_2 c29_55
abbrev c29_57 : AC := .seq c29_1 c29_56
abbrev c29 : AC := c29_57
theorem code29 : fnCode Try.prog 29 = some (c29, [5000004, 5], 78) := by kernel_rfl
/- coinage/coinageref14.Part -/
abbrev c30_1 : AC := .reg [⟨(some 2), .box 25 (some 3) (.t 0), none⟩,
  ⟨(some 4), .alloc 25 [(.c .nil), (.c .nil), (.c .nil)], none⟩,
  ⟨(some 5), .mv (.k (.I 0)), none⟩] false
abbrev c30_2 : AC := .reg [⟨(some 15), .ld (some 3) (.t 2), none⟩,
  ⟨(some 16), .call 37 [(.t 15)], none⟩,
  ⟨(some 14), .mv (.t 16), none⟩,
  ⟨(some 17), .ext (.t 14) 0, none⟩,
  ⟨(some 18), .ext (.t 14) 1, none⟩,
  ⟨(some 6), .mv (.t 17), none⟩,
  ⟨(some 7), .mv (.t 18), none⟩] false
abbrev c30_3 : AC := .reg [⟨(some 19), .mv (.t 7), none⟩,
  ⟨(some 20), .bin .neq (.t 19) (.k (.I 0)), none⟩] false
abbrev c30_4 : AC := .reg [⟨(some 21), .build [(.c .nil), (.c .nil), (.c .nil)] [], none⟩,
  ⟨(some 22), .mv (.t 7), none⟩,
  ⟨none, .st (some 3) (.t 4) (.t 21), none⟩,
  ⟨(some 5), .mv (.t 22), none⟩] false
abbrev c30_5 : AC := .seq c30_4 .ret
abbrev c30_6 : AC := .cond (.t 20) c30_5 .skip
abbrev c30_7 : AC := .seq c30_3 c30_6
abbrev c30_8 : AC := .reg [⟨(some 23), .mv (.t 1), none⟩,
  ⟨(some 24), .bin .lss (.t 23) (.k (.I 0)), none⟩,
  ⟨(some 25), .mv (.t 24), none⟩,
  ⟨(some 26), .mv (.t 1), (some (25, false))⟩,
  ⟨(some 27), .ld (some 3) (.t 2), (some (25, false))⟩,
  ⟨(some 28), .call 43 [(.t 27)], (some (25, false))⟩,
  ⟨(some 29), .bin .geq (.t 26) (.t 28), (some (25, false))⟩,
  ⟨(some 30), .pick (.t 25) (.k (.B true)) (.t 29), none⟩] false
abbrev c30_9 : AC := .reg [⟨(some 31), .build [(.c .nil), (.c .nil), (.c .nil)] [], none⟩,
  ⟨none, .st (some 3) (.t 4) (.t 31), none⟩,
  ⟨(some 5), .mv (.k (.I 7)), none⟩] false
abbrev c30_10 : AC := .seq c30_9 .ret
abbrev c30_11 : AC := .cond (.t 30) c30_10 .skip
abbrev c30_12 : AC := .seq c30_8 c30_11
abbrev c30_13 : AC := .reg [⟨(some 33), .ld (some 3) (.t 2), none⟩,
  ⟨(some 34), .call 22 [(.t 33)], none⟩,
  ⟨(some 32), .mv (.t 34), none⟩,
  ⟨(some 35), .ext (.t 32) 0, none⟩,
  ⟨(some 36), .ext (.t 32) 1, none⟩,
  ⟨(some 8), .mv (.t 35), none⟩,
  ⟨(some 9), .mv (.t 36), none⟩] false
abbrev c30_14 : AC := .reg [⟨(some 10), .mv (.k (.c .nil)), none⟩] false
abbrev c30_15 : AC := .reg [⟨(some 11), .mv (.k (.I 0)), none⟩] false
abbrev c30_16 : AC := .reg [⟨(some 37), .mv (.t 11), none⟩,
  ⟨(some 38), .fad 2 (.t 2), none⟩,
  ⟨(some 39), .ld none (.t 38), none⟩,
  ⟨(some 40), .len (.t 39), none⟩,
  ⟨(some 41), .bin .lss (.t 37) (.t 40), none⟩] false
abbrev c30_17 : AC := .cond (.t 41) .skip (.exit 0)
abbrev c30_18 : AC := .seq c30_16 c30_17
abbrev c30_19 : AC := .reg [⟨(some 45), .fad 2 (.t 2), none⟩,
  ⟨(some 46), .ld none (.t 45), none⟩,
  ⟨(some 47), .mv (.t 11), none⟩,
  ⟨(some 48), .iad 3 (.t 46) (.t 47), none⟩,
  ⟨(some 49), .ld (some 3) (.t 48), none⟩,
  ⟨(some 50), .call 39 [(.t 49)], none⟩,
  ⟨(some 44), .mv (.t 50), none⟩,
  ⟨(some 51), .ext (.t 44) 0, none⟩,
  ⟨(some 52), .ext (.t 44) 1, none⟩,
  ⟨(some 12), .alloc 27 [(.I 0), (.I 0)], none⟩,
  ⟨(some 13), .alloc 27 [(.I 0), (.I 0)], none⟩,
  ⟨none, .st (some 2) (.t 12) (.t 51), none⟩,
  ⟨none, .st (some 2) (.t 13) (.t 52), none⟩] false
abbrev c30_20 : AC := .reg [⟨(some 53), .mv (.t 8), none⟩,
  ⟨(some 54), .mv (.t 6), none⟩,
  ⟨(some 55), .ld (some 2) (.t 12), none⟩,
  ⟨(some 56), .call 40 [(.t 54), (.t 55)], none⟩,
  ⟨(some 57), .iad 1 (.t 53) (.t 56), none⟩,
  ⟨(some 58), .ld none (.t 57), none⟩,
  ⟨(some 59), .mv (.t 1), none⟩,
  ⟨(some 60), .bin .eql (.t 58) (.t 59), none⟩] false
abbrev c30_21 : AC := .reg [⟨(some 61), .mv (.t 10), none⟩,
  ⟨(some 62), .fad 2 (.t 2), none⟩,
  ⟨(some 63), .ld none (.t 62), none⟩,
  ⟨(some 64), .mv (.t 11), none⟩,
  ⟨(some 65), .iad 3 (.t 63) (.t 64), none⟩,
  ⟨(some 66), .ld (some 3) (.t 65), none⟩,
  ⟨(some 67), .bslice 47 3 [(.t 66)], none⟩,
  ⟨(some 68), .app 47 3 24 (.t 61) (.t 67), none⟩,
  ⟨(some 10), .mv (.t 68), none⟩] false
abbrev c30_22 : AC := .cond (.t 60) c30_21 .skip
abbrev c30_23 : AC := .seq c30_20 c30_22
abbrev c30_24 : AC := .seq c30_19 c30_23
abbrev c30_25 : AC := .block 1 c30_24
abbrev c30_26 : AC := .reg [⟨(some 42), .mv (.t 11), none⟩,
  ⟨(some 43), .bin .add (.t 42) (.k (.I 1)), none⟩,
  ⟨(some 11), .mv (.t 43), none⟩] false
abbrev c30_27 : AC := .seq c30_25 c30_26
abbrev c30_28 : AC := .seq c30_18 c30_27
abbrev c30_29 : AC := .loop c30_28
abbrev c30_30 : AC := .block 0 c30_29
abbrev c30_31 : AC := .seq c30_15 c30_30
abbrev c30_32 : AC := .reg [⟨(some 69), .mv (.t 10), none⟩,
  ⟨(some 70), .call 28 [(.t 69)], none⟩,
  ⟨none, .st (some 3) (.t 4) (.t 70), none⟩,
  ⟨(some 5), .mv (.k (.I 0)), none⟩] false
abbrev c30_33 : AC := .seq c30_32 .ret
abbrev c30_34 : AC := .seq c30_31 c30_33
abbrev c30_35 : AC := .seq c30_14 c30_34
abbrev c30_36 : AC := .seq c30_13 c30_35
abbrev c30_37 : AC := .seq c30_12 c30_36
abbrev c30_38 : AC := .seq c30_7 c30_37
abbrev c30_39 : AC := .seq c30_2 c30_38
abbrev c30_40 : AC := .seq c30_1 c30_39
abbrev c30 : AC := c30_40
theorem code30 : fnCode Try.prog 30 = some (c30, [5000004, 5], 71) := by kernel_rfl
/- coinage/coinagebase.Graphs -/
abbrev c31_1 : AC := .reg [⟨(some 2), .box 25 (some 3) (.t 0), none⟩,
  ⟨(some 3), .box 25 (some 3) (.t 1), none⟩,
  ⟨(some 4), .mv (.k (.B false)), none⟩] false
abbrev c31_2 : AC := .reg [⟨(some 5), .fad 0 (.t 2), none⟩,
  ⟨(some 6), .ld none (.t 5), none⟩,
  ⟨(some 7), .fad 0 (.t 3), none⟩,
  ⟨(some 8), .ld none (.t 7), none⟩,
  ⟨(some 9), .call 16 [(.t 6), (.t 8)], none⟩,
  ⟨(some 10), .mv (.t 9), none⟩,
  ⟨(some 11), .fad 1 (.t 2), (some (10, true))⟩,
  ⟨(some 12), .ld none (.t 11), (some (10, true))⟩,
  ⟨(some 13), .fad 1 (.t 3), (some (10, true))⟩,
  ⟨(some 14), .ld none (.t 13), (some (10, true))⟩,
  ⟨(some 15), .call 16 [(.t 12), (.t 14)], (some (10, true))⟩,
  ⟨(some 16), .pick (.t 10) (.t 15) (.k (.B false)), none⟩,
  ⟨(some 17), .mv (.t 16), none⟩,
  ⟨(some 18), .fad 2 (.t 2), (some (17, true))⟩,
  ⟨(some 19), .ld none (.t 18), (some (17, true))⟩,
  ⟨(some 20), .fad 2 (.t 3), (some (17, true))⟩,
  ⟨(some 21), .ld none (.t 20), (some (17, true))⟩,
  ⟨(some 22), .call 49 [(.t 19), (.t 21)], (some (17, true))⟩,
  ⟨(some 23), .pick (.t 17) (.t 22) (.k (.B false)), none⟩,
  ⟨(some 4), .mv (.t 23), none⟩] false
abbrev c31_3 : AC := .seq c31_2 .ret
abbrev c31_4 : AC := .seq c31_1 c31_3
abbrev c31 : AC := c31_4
theorem code31 : fnCode Try.prog 31 = some (c31, [4], 24) := by kernel_rfl
/- coinage/linkage.Valid -/
abbrev c32_1 : AC := .reg [⟨(some 1), .box 25 (some 3) (.t 0), none⟩,
  ⟨(some 2), .mv (.k (.B false)), none⟩] false
abbrev c32_2 : AC := .reg [⟨(some 6), .fad 0 (.t 1), none⟩,
  ⟨(some 7), .ld none (.t 6), none⟩,
  ⟨(some 8), .call 50 [(.t 7)], none⟩,
  ⟨(some 9), .not (.t 8), none⟩,
  ⟨(some 10), .mv (.t 9), none⟩,
  ⟨(some 11), .fad 1 (.t 1), (some (10, false))⟩,
  ⟨(some 12), .ld none (.t 11), (some (10, false))⟩,
  ⟨(some 13), .call 50 [(.t 12)], (some (10, false))⟩,
  ⟨(some 14), .not (.t 13), (some (10, false))⟩,
  ⟨(some 15), .pick (.t 10) (.k (.B true)) (.t 14), none⟩,
  ⟨(some 16), .mv (.t 15), none⟩,
  ⟨(some 17), .fad 2 (.t 1), (some (16, false))⟩,
  ⟨(some 18), .ld none (.t 17), (some (16, false))⟩,
  ⟨(some 19), .len (.t 18), (some (16, false))⟩,
  ⟨(some 20), .bin .gtr (.t 19) (.k (.I 64)), (some (16, false))⟩,
  ⟨(some 21), .pick (.t 16) (.k (.B true)) (.t 20), none⟩] false
abbrev c32_3 : AC := .reg [⟨(some 2), .mv (.k (.B false)), none⟩] false
abbrev c32_4 : AC := .seq c32_3 .ret
abbrev c32_5 : AC := .cond (.t 21) c32_4 .skip
abbrev c32_6 : AC := .seq c32_2 c32_5
abbrev c32_7 : AC := .reg [⟨(some 22), .fad 2 (.t 1), none⟩,
  ⟨(some 23), .ld none (.t 22), none⟩,
  ⟨(some 24), .len (.t 23), none⟩,
  ⟨(some 25), .mv (.k (.I 0)), none⟩] false
abbrev c32_8 : AC := .reg [⟨(some 26), .bin .lss (.t 25) (.t 24), none⟩] false
abbrev c32_9 : AC := .cond (.t 26) .skip (.exit 0)
abbrev c32_10 : AC := .reg [⟨(some 27), .mv (.t 25), none⟩,
  ⟨(some 28), .iad 3 (.t 23) (.t 25), none⟩,
  ⟨(some 29), .ld (some 3) (.t 28), none⟩,
  ⟨(some 4), .alloc 47 [(.I 0), (.I 0), (.I 0)], none⟩,
  ⟨(some 3), .mv (.t 27), none⟩,
  ⟨none, .st (some 3) (.t 4) (.t 29), none⟩] false
abbrev c32_11 : AC := .regD [(⟨(some 30), .fad 0 (.t 4), none⟩, [4]),
  (⟨(some 31), .ld none (.t 30), none⟩, [30]),
  (⟨(some 32), .bin .lss (.t 31) (.k (.I 1)), none⟩, [31]),
  (⟨(some 33), .mv (.t 32), none⟩, [32]),
  (⟨(some 34), .fad 0 (.t 4), (some (33, false))⟩, [4, 33]),
  (⟨(some 35), .ld none (.t 34), (some (33, false))⟩, [34, 33]),
  (⟨(some 36), .bin .gtr (.t 35) (.k (.I 9999)), (some (33, false))⟩, [35, 33]),
  (⟨(some 37), .pick (.t 33) (.k (.B true)) (.t 36), none⟩, [33, 36]),
  (⟨(some 38), .mv (.t 37), none⟩, [37]),
  (⟨(some 39), .mv (.t 3), (some (38, false))⟩, [3, 38]),
  (⟨(some 40), .bin .gtr (.t 39) (.k (.I 0)), (some (38, false))⟩, [39, 38]),
  (⟨(some 41), .mv (.t 40), (some (38, false))⟩, [40, 38]),
  (⟨(some 42), .fad 0 (.t 4), (some (41, true))⟩, [4, 41]),
  (⟨(some 43), .ld none (.t 42), (some (41, true))⟩, [42, 41]),
  (⟨(some 44), .fad 2 (.t 1), (some (41, true))⟩, [1, 41]),
  (⟨(some 45), .ld none (.t 44), (some (41, true))⟩, [44, 41]),
  (⟨(some 46), .mv (.t 3), (some (41, true))⟩, [3, 41]),
  (⟨(some 47), .bin .sub (.t 46) (.k (.I 1)), (some (41, true))⟩, [46, 41]),
  (⟨(some 48), .iad 3 (.t 45) (.t 47), (some (41, true))⟩, [45, 47, 41]),
  (⟨(some 49), .fad 0 (.t 48), (some (41, true))⟩, [48, 41]),
  (⟨(some 50), .ld none (.t 49), (some (41, true))⟩, [49, 41]),
  (⟨(some 51), .bin .leq (.t 43) (.t 50), (some (41, true))⟩, [43, 50, 41]),
  (⟨(some 52), .pick (.t 41) (.t 51) (.k (.B false)), (some (38, false))⟩, [41, 51, 38]),
  (⟨(some 53), .pick (.t 38) (.k (.B true)) (.t 52), none⟩, [38, 52]),
  (⟨(some 54), .mv (.t 53), none⟩, [53]),
  (⟨(some 55), .fad 0 (.t 1), (some (54, false))⟩, [1, 54]),
  (⟨(some 56), .ld none (.t 55), (some (54, false))⟩, [55, 54]),
  (⟨(some 57), .fad 1 (.t 4), (some (54, false))⟩, [4, 54]),
  (⟨(some 58), .ld none (.t 57), (some (54, false))⟩, [57, 54]),
  (⟨(some 59), .call 51 [(.t 56), (.t 58)], (some (54, false))⟩, [56, 58, 54]),
  (⟨(some 60), .not (.t 59), (some (54, false))⟩, [59, 54]),
  (⟨(some 61), .pick (.t 54) (.k (.B true)) (.t 60), none⟩, [54, 60]),
  (⟨(some 62), .mv (.t 61), none⟩, [61]),
  (⟨(some 63), .fad 1 (.t 1), (some (62, false))⟩, [1, 62]),
  (⟨(some 64), .ld none (.t 63), (some (62, false))⟩, [63, 62]),
  (⟨(some 65), .fad 2 (.t 4), (some (62, false))⟩, [4, 62]),
  (⟨(some 66), .ld none (.t 65), (some (62, false))⟩, [65, 62]),
  (⟨(some 67), .call 51 [(.t 64), (.t 66)], (some (62, false))⟩, [64, 66, 62]),
  (⟨(some 68), .not (.t 67), (some (62, false))⟩, [67, 62]),
  (⟨(some 69), .pick (.t 62) (.k (.B true)) (.t 68), none⟩, [62, 68])]
abbrev c32_12 : AC := .reg [⟨(some 2), .mv (.k (.B false)), none⟩] false
abbrev c32_13 : AC := .seq c32_12 .ret
abbrev c32_14 : AC := .cond (.t 69) c32_13 .skip
abbrev c32_15 : AC := .seq c32_11 c32_14
abbrev c32_16 : AC := .seq c32_10 c32_15
abbrev c32_17 : AC := .block 1 c32_16
abbrev c32_18 : AC := .reg [⟨(some 70), .bin .add (.t 25) (.k (.I 1)), none⟩,
  ⟨(some 25), .mv (.t 70), none⟩] false
abbrev c32_19 : AC := .seq c32_17 c32_18
abbrev c32_20 : AC := .seq c32_9 c32_19
abbrev c32_21 : AC := .seq c32_8 c32_20
abbrev c32_22 : AC := .loop c32_21
abbrev c32_23 : AC := .block 0 c32_22
abbrev c32_24 : AC := .seq c32_7 c32_23
abbrev c32_25 : AC := .reg [⟨(some 71), .fad 2 (.t 1), none⟩,
  ⟨(some 72), .ld none (.t 71), none⟩,
  ⟨(some 73), .call 52 [(.t 72)], none⟩,
  ⟨(some 5), .alloc 25 [(.c .nil), (.c .nil), (.c .nil)], none⟩,
  ⟨none, .st (some 3) (.t 5) (.t 73), none⟩] false
abbrev c32_26 : AC := .reg [⟨(some 74), .fad 0 (.t 5), none⟩,
  ⟨(some 75), .ld none (.t 74), none⟩,
  ⟨(some 76), .len (.t 75), none⟩,
  ⟨(some 77), .fad 0 (.t 1), none⟩,
  ⟨(some 78), .ld none (.t 77), none⟩,
  ⟨(some 79), .len (.t 78), none⟩,
  ⟨(some 80), .bin .eql (.t 76) (.t 79), none⟩,
  ⟨(some 81), .mv (.t 80), none⟩,
  ⟨(some 82), .fad 1 (.t 5), (some (81, true))⟩,
  ⟨(some 83), .ld none (.t 82), (some (81, true))⟩,
  ⟨(some 84), .len (.t 83), (some (81, true))⟩,
  ⟨(some 85), .fad 1 (.t 1), (some (81, true))⟩,
  ⟨(some 86), .ld none (.t 85), (some (81, true))⟩,
  ⟨(some 87), .len (.t 86), (some (81, true))⟩,
  ⟨(some 88), .bin .eql (.t 84) (.t 87), (some (81, true))⟩,
  ⟨(some 89), .pick (.t 81) (.t 88) (.k (.B false)), none⟩,
  ⟨(some 2), .mv (.t 89), none⟩] false
abbrev c32_27 : AC := .seq c32_26 .ret
abbrev c32_28 : AC := .seq c32_25 c32_27
abbrev c32_29 : AC := .seq c32_24 c32_28
abbrev c32_30 : AC := .seq c32_6 c32_29
abbrev c32_31 : AC := .seq c32_1 c32_30
abbrev c32 : AC := c32_31
theorem code32 : fnCode Try.prog 32 = some (c32, [2], 90) := by kernel_rfl
/- coinage/coinagelaw14.four -/
abbrev c34_1 : AC := .reg [⟨(some 0), .alloc 25 [(.c .nil), (.c .nil), (.c .nil)], none⟩] false
abbrev c34_2 : AC := .reg [⟨(some 1), .bslice 3 1 [(.k (.I 1)), (.k (.I 3)), (.k (.I 9))], none⟩,
  ⟨(some 2), .bslice 3 1 [(.k (.I 2)), (.k (.I 4)), (.k (.I 9))], none⟩,
  ⟨(some 3), .build [(.I 0), (.I 0), (.I 0)] [(0, 1, (.k (.I 3))), (1, 1, (.k (.I 1))), (2, 1, (.k (.I 4)))], none⟩,
  ⟨(some 4), .build [(.I 0), (.I 0), (.I 0)] [(0, 1, (.k (.I 5))), (1, 1, (.k (.I 3))), (2, 1, (.k (.I 4)))], none⟩,
  ⟨(some 5), .build [(.I 0), (.I 0), (.I 0)] [(0, 1, (.k (.I 7))), (1, 1, (.k (.I 1))), (2, 1, (.k (.I 2)))], none⟩,
  ⟨(some 6), .build [(.I 0), (.I 0), (.I 0)] [(0, 1, (.k (.I 8))), (1, 1, (.k (.I 9))), (2, 1, (.k (.I 9)))], none⟩,
  ⟨(some 7), .bslice 47 3 [(.t 3), (.t 4), (.t 5), (.t 6)], none⟩,
  ⟨(some 8), .build [(.c .nil), (.c .nil), (.c .nil)] [(0, 1, (.t 1)), (1, 1, (.t 2)), (2, 1, (.t 7))], none⟩,
  ⟨none, .st (some 3) (.t 0) (.t 8), none⟩] false
abbrev c34_3 : AC := .seq c34_2 .ret
abbrev c34_4 : AC := .seq c34_1 c34_3
abbrev c34 : AC := c34_4
theorem code34 : fnCode Try.prog 34 = some (c34, [5000000], 9) := by kernel_rfl
/- coinage/component.away -/
abbrev c35_1 : AC := .reg [⟨(some 3), .box 25 (some 3) (.t 0), none⟩,
  ⟨(some 4), .box 27 (some 2) (.t 1), none⟩,
  ⟨(some 5), .box 27 (some 2) (.t 2), none⟩,
  ⟨(some 6), .mv (.k (.c .mn)), none⟩,
  ⟨(some 7), .mv (.k (.I 0)), none⟩] false
abbrev c35_2 : AC := .reg [⟨(some 11), .ld (some 3) (.t 3), none⟩,
  ⟨(some 12), .call 32 [(.t 11)], none⟩,
  ⟨(some 13), .not (.t 12), none⟩] false
abbrev c35_3 : AC := .reg [⟨(some 6), .mv (.k (.c .mn)), none⟩,
  ⟨(some 7), .mv (.k (.I 1)), none⟩] false
abbrev c35_4 : AC := .seq c35_3 .ret
abbrev c35_5 : AC := .cond (.t 13) c35_4 .skip
abbrev c35_6 : AC := .seq c35_2 c35_5
abbrev c35_7 : AC := .reg [⟨(some 14), .ld (some 3) (.t 3), none⟩,
  ⟨(some 15), .ld (some 2) (.t 4), none⟩,
  ⟨(some 16), .call 56 [(.t 14), (.t 15)], none⟩,
  ⟨(some 17), .not (.t 16), none⟩,
  ⟨(some 18), .mv (.t 17), none⟩,
  ⟨(some 19), .ld (some 3) (.t 3), (some (18, false))⟩,
  ⟨(some 20), .ld (some 2) (.t 5), (some (18, false))⟩,
  ⟨(some 21), .call 56 [(.t 19), (.t 20)], (some (18, false))⟩,
  ⟨(some 22), .not (.t 21), (some (18, false))⟩,
  ⟨(some 23), .pick (.t 18) (.k (.B true)) (.t 22), none⟩] false
abbrev c35_8 : AC := .reg [⟨(some 6), .mv (.k (.c .mn)), none⟩,
  ⟨(some 7), .mv (.k (.I 7)), none⟩] false
abbrev c35_9 : AC := .seq c35_8 .ret
abbrev c35_10 : AC := .cond (.t 23) c35_9 .skip
abbrev c35_11 : AC := .seq c35_7 c35_10
abbrev c35_12 : AC := .reg [⟨(some 24), .ld (some 3) (.t 3), none⟩,
  ⟨(some 25), .ld (some 2) (.t 4), none⟩,
  ⟨(some 26), .call 42 [(.t 24), (.t 25)], none⟩,
  ⟨(some 8), .mv (.t 26), none⟩] false
abbrev c35_13 : AC := .reg [⟨(some 28), .mv (.t 8), none⟩,
  ⟨(some 29), .ld (some 2) (.t 5), none⟩,
  ⟨(some 30), .look (.agg [.i64, .i64]) (.inl (.sc (.int .i64 0))) true (.t 28) (.t 29), none⟩,
  ⟨(some 27), .mv (.t 30), none⟩,
  ⟨(some 31), .ext (.t 27) 0, none⟩,
  ⟨(some 32), .ext (.t 27) 1, none⟩,
  ⟨(some 9), .mv (.t 31), none⟩,
  ⟨(some 10), .mv (.t 32), none⟩] false
abbrev c35_14 : AC := .reg [⟨(some 33), .mv (.t 10), none⟩,
  ⟨(some 34), .not (.t 33), none⟩] false
abbrev c35_15 : AC := .reg [⟨(some 6), .mv (.k (.c .mn)), none⟩,
  ⟨(some 7), .mv (.k (.I 7)), none⟩] false
abbrev c35_16 : AC := .seq c35_15 .ret
abbrev c35_17 : AC := .cond (.t 34) c35_16 .skip
abbrev c35_18 : AC := .seq c35_14 c35_17
abbrev c35_19 : AC := .seq c35_13 c35_18
abbrev c35_20 : AC := .reg [⟨(some 35), .mv (.t 8), none⟩,
  ⟨(some 6), .mv (.t 35), none⟩,
  ⟨(some 7), .mv (.k (.I 0)), none⟩] false
abbrev c35_21 : AC := .seq c35_20 .ret
abbrev c35_22 : AC := .seq c35_19 c35_21
abbrev c35_23 : AC := .seq c35_12 c35_22
abbrev c35_24 : AC := .seq c35_11 c35_23
abbrev c35_25 : AC := .seq c35_6 c35_24
abbrev c35_26 : AC := .seq c35_1 c35_25
abbrev c35 : AC := c35_26
theorem code35 : fnCode Try.prog 35 = some (c35, [6, 7], 36) := by kernel_rfl
/- coinage/component.across -/
abbrev c36_1 : AC := .reg [⟨(some 2), .box 47 (some 3) (.t 0), none⟩,
  ⟨(some 3), .box 27 (some 2) (.t 1), none⟩,
  ⟨(some 4), .alloc 27 [(.I 0), (.I 0)], none⟩,
  ⟨(some 5), .mv (.k (.B false)), none⟩] false
abbrev c36_2 : AC := .reg [⟨(some 9), .ld (some 3) (.t 2), none⟩,
  ⟨(some 10), .call 57 [(.t 9)], none⟩,
  ⟨(some 8), .mv (.t 10), none⟩,
  ⟨(some 11), .ext (.t 8) 0, none⟩,
  ⟨(some 12), .ext (.t 8) 1, none⟩,
  ⟨(some 6), .alloc 27 [(.I 0), (.I 0)], none⟩,
  ⟨(some 7), .alloc 27 [(.I 0), (.I 0)], none⟩,
  ⟨none, .st (some 2) (.t 6) (.t 11), none⟩,
  ⟨none, .st (some 2) (.t 7) (.t 12), none⟩] false
abbrev c36_3 : AC := .reg [⟨(some 13), .ld (some 2) (.t 3), none⟩] false
abbrev c36_4 : AC := .reg [⟨(some 15), .ld (some 2) (.t 6), none⟩,
  ⟨(some 16), .eqs false [false, false] (.t 13) (.t 15), none⟩,
  ⟨(some 14), .mv (.t 16), none⟩] false
abbrev c36_5 : AC := .reg [⟨(some 17), .ld (some 2) (.t 7), none⟩,
  ⟨none, .st (some 2) (.t 4) (.t 17), none⟩,
  ⟨(some 5), .mv (.k (.B true)), none⟩] false
abbrev c36_6 : AC := .seq c36_5 .ret
abbrev c36_7 : AC := .reg [⟨(some 19), .ld (some 2) (.t 7), none⟩,
  ⟨(some 20), .eqs false [false, false] (.t 13) (.t 19), none⟩,
  ⟨(some 18), .mv (.t 20), none⟩] false
abbrev c36_8 : AC := .reg [⟨(some 21), .ld (some 2) (.t 6), none⟩,
  ⟨none, .st (some 2) (.t 4) (.t 21), none⟩,
  ⟨(some 5), .mv (.k (.B true)), none⟩] false
abbrev c36_9 : AC := .seq c36_8 .ret
abbrev c36_10 : AC := .cond (.t 18) c36_9 .skip
abbrev c36_11 : AC := .seq c36_7 c36_10
abbrev c36_12 : AC := .cond (.t 14) c36_6 c36_11
abbrev c36_13 : AC := .seq c36_4 c36_12
abbrev c36_14 : AC := .block 0 c36_13
abbrev c36_15 : AC := .seq c36_3 c36_14
abbrev c36_16 : AC := .reg [⟨(some 22), .build [(.I 0), (.I 0)] [], none⟩,
  ⟨none, .st (some 2) (.t 4) (.t 22), none⟩,
  ⟨(some 5), .mv (.k (.B false)), none⟩] false
abbrev c36_17 : AC := .seq c36_16 .ret
abbrev c36_18 : AC := .seq c36_15 c36_17
abbrev c36_19 : AC := .seq c36_2 c36_18
abbrev c36_20 : AC := .seq c36_1 c36_19
abbrev c36 : AC := c36_20
theorem code36 : fnCode Try.prog 36 = some (c36, [4000004, 5], 23) := by kernel_rfl
/- coinage/coinageref13.Dies -/
abbrev c37_1 : AC := .reg [⟨(some 1), .box 25 (some 3) (.t 0), none⟩,
  ⟨(some 2), .mv (.k (.c .nil)), none⟩,
  ⟨(some 3), .mv (.k (.I 0)), none⟩] false
abbrev c37_2 : AC := .reg [⟨(some 7), .ld (some 3) (.t 1), none⟩,
  ⟨(some 8), .call 26 [(.t 7)], none⟩,
  ⟨(some 9), .not (.t 8), none⟩] false
abbrev c37_3 : AC := .reg [⟨(some 2), .mv (.k (.c .nil)), none⟩,
  ⟨(some 3), .mv (.k (.I 1)), none⟩] false
abbrev c37_4 : AC := .seq c37_3 .ret
abbrev c37_5 : AC := .cond (.t 9) c37_4 .skip
abbrev c37_6 : AC := .seq c37_2 c37_5
abbrev c37_7 : AC := .reg [⟨(some 4), .mv (.k (.c .nil)), none⟩] false
abbrev c37_8 : AC := .reg [⟨(some 5), .mv (.k (.I 0)), none⟩] false
abbrev c37_9 : AC := .reg [⟨(some 10), .mv (.t 5), none⟩,
  ⟨(some 11), .fad 0 (.t 1), none⟩,
  ⟨(some 12), .ld none (.t 11), none⟩,
  ⟨(some 13), .len (.t 12), none⟩,
  ⟨(some 14), .bin .lss (.t 10) (.t 13), none⟩] false
abbrev c37_10 : AC := .cond (.t 14) .skip (.exit 0)
abbrev c37_11 : AC := .seq c37_9 c37_10
abbrev c37_12 : AC := .reg [⟨(some 17), .mv (.t 4), none⟩,
  ⟨(some 18), .fad 0 (.t 1), none⟩,
  ⟨(some 19), .ld none (.t 18), none⟩,
  ⟨(some 20), .mv (.t 5), none⟩,
  ⟨(some 21), .iad 1 (.t 19) (.t 20), none⟩,
  ⟨(some 22), .ld none (.t 21), none⟩,
  ⟨(some 23), .build [(.I 0), (.I 0)] [(0, 1, (.k (.I 0))), (1, 1, (.t 22))], none⟩,
  ⟨(some 24), .bslice 27 2 [(.t 23)], none⟩,
  ⟨(some 25), .app 27 2 16 (.t 17) (.t 24), none⟩,
  ⟨(some 4), .mv (.t 25), none⟩] false
abbrev c37_13 : AC := .block 1 c37_12
abbrev c37_14 : AC := .reg [⟨(some 15), .mv (.t 5), none⟩,
  ⟨(some 16), .bin .add (.t 15) (.k (.I 1)), none⟩,
  ⟨(some 5), .mv (.t 16), none⟩] false
abbrev c37_15 : AC := .seq c37_13 c37_14
abbrev c37_16 : AC := .seq c37_11 c37_15
abbrev c37_17 : AC := .loop c37_16
abbrev c37_18 : AC := .block 0 c37_17
abbrev c37_19 : AC := .seq c37_8 c37_18
abbrev c37_20 : AC := .reg [⟨(some 6), .mv (.k (.I 0)), none⟩] false
abbrev c37_21 : AC := .reg [⟨(some 26), .mv (.t 6), none⟩,
  ⟨(some 27), .fad 1 (.t 1), none⟩,
  ⟨(some 28), .ld none (.t 27), none⟩,
  ⟨(some 29), .len (.t 28), none⟩,
  ⟨(some 30), .bin .lss (.t 26) (.t 29), none⟩] false
abbrev c37_22 : AC := .cond (.t 30) .skip (.exit 2)
abbrev c37_23 : AC := .seq c37_21 c37_22
abbrev c37_24 : AC := .reg [⟨(some 33), .mv (.t 4), none⟩,
  ⟨(some 34), .fad 1 (.t 1), none⟩,
  ⟨(some 35), .ld none (.t 34), none⟩,
  ⟨(some 36), .mv (.t 6), none⟩,
  ⟨(some 37), .iad 1 (.t 35) (.t 36), none⟩,
  ⟨(some 38), .ld none (.t 37), none⟩,
  ⟨(some 39), .build [(.I 0), (.I 0)] [(0, 1, (.k (.I 1))), (1, 1, (.t 38))], none⟩,
  ⟨(some 40), .bslice 27 2 [(.t 39)], none⟩,
  ⟨(some 41), .app 27 2 16 (.t 33) (.t 40), none⟩,
  ⟨(some 4), .mv (.t 41), none⟩] false
abbrev c37_25 : AC := .block 3 c37_24
abbrev c37_26 : AC := .reg [⟨(some 31), .mv (.t 6), none⟩,
  ⟨(some 32), .bin .add (.t 31) (.k (.I 1)), none⟩,
  ⟨(some 6), .mv (.t 32), none⟩] false
abbrev c37_27 : AC := .seq c37_25 c37_26
abbrev c37_28 : AC := .seq c37_23 c37_27
abbrev c37_29 : AC := .loop c37_28
abbrev c37_30 : AC := .block 2 c37_29
abbrev c37_31 : AC := .seq c37_20 c37_30
abbrev c37_32 : AC := .reg [⟨(some 42), .mv (.t 4), none⟩,
  ⟨(some 2), .mv (.t 42), none⟩,
  ⟨(some 3), .mv (.k (.I 0)), none⟩] false
abbrev c37_33 : AC := .seq c37_32 .ret
abbrev c37_34 : AC := .seq c37_31 c37_33
abbrev c37_35 : AC := .seq c37_19 c37_34
abbrev c37_36 : AC := .seq c37_7 c37_35
abbrev c37_37 : AC := .seq c37_6 c37_36
abbrev c37_38 : AC := .seq c37_1 c37_37
abbrev c37 : AC := c37_38
theorem code37 : fnCode Try.prog 37 = some (c37, [2, 3], 43) := by kernel_rfl
/- coinage/coinageref14.far -/
abbrev c38_1 : AC := .reg [⟨(some 2), .box 25 (some 3) (.t 0), none⟩,
  ⟨(some 3), .box 27 (some 2) (.t 1), none⟩,
  ⟨(some 4), .mv (.k (.c .nil)), none⟩] false
abbrev c38_2 : AC := .reg [⟨(some 16), .ld (some 3) (.t 2), none⟩,
  ⟨(some 17), .call 37 [(.t 16)], none⟩,
  ⟨(some 15), .mv (.t 17), none⟩,
  ⟨(some 18), .ext (.t 15) 0, none⟩,
  ⟨(some 19), .ext (.t 15) 1, none⟩,
  ⟨(some 5), .mv (.t 18), none⟩,
  ⟨(some 6), .mv (.t 19), none⟩] false
abbrev c38_3 : AC := .reg [⟨(some 20), .mv (.t 5), none⟩,
  ⟨(some 21), .len (.t 20), none⟩,
  ⟨(some 22), .mks 3 1 8 [(.sc (.int .i64 0))] (.t 21) (.t 21), none⟩,
  ⟨(some 7), .mv (.t 22), none⟩] false
abbrev c38_4 : AC := .reg [⟨(some 8), .mv (.k (.I 0)), none⟩] false
abbrev c38_5 : AC := .reg [⟨(some 23), .mv (.t 8), none⟩,
  ⟨(some 24), .mv (.t 5), none⟩,
  ⟨(some 25), .len (.t 24), none⟩,
  ⟨(some 26), .bin .lss (.t 23) (.t 25), none⟩] false
abbrev c38_6 : AC := .cond (.t 26) .skip (.exit 0)
abbrev c38_7 : AC := .seq c38_5 c38_6
abbrev c38_8 : AC := .reg [⟨(some 29), .mv (.t 7), none⟩,
  ⟨(some 30), .mv (.t 8), none⟩,
  ⟨(some 31), .iad 1 (.t 29) (.t 30), none⟩,
  ⟨none, .st none (.t 31) (.k (.I (-1))), none⟩] false
abbrev c38_9 : AC := .block 1 c38_8
abbrev c38_10 : AC := .reg [⟨(some 27), .mv (.t 8), none⟩,
  ⟨(some 28), .bin .add (.t 27) (.k (.I 1)), none⟩,
  ⟨(some 8), .mv (.t 28), none⟩] false
abbrev c38_11 : AC := .seq c38_9 c38_10
abbrev c38_12 : AC := .seq c38_7 c38_11
abbrev c38_13 : AC := .loop c38_12
abbrev c38_14 : AC := .block 0 c38_13
abbrev c38_15 : AC := .seq c38_4 c38_14
abbrev c38_16 : AC := .reg [⟨(some 32), .mv (.t 5), none⟩,
  ⟨(some 33), .ld (some 2) (.t 3), none⟩,
  ⟨(some 34), .call 40 [(.t 32), (.t 33)], none⟩,
  ⟨(some 35), .bin .lss (.t 34) (.k (.I 0)), none⟩] false
abbrev c38_17 : AC := .reg [⟨(some 36), .mv (.t 7), none⟩,
  ⟨(some 4), .mv (.t 36), none⟩] false
abbrev c38_18 : AC := .seq c38_17 .ret
abbrev c38_19 : AC := .cond (.t 35) c38_18 .skip
abbrev c38_20 : AC := .seq c38_16 c38_19
abbrev c38_21 : AC := .reg [⟨(some 37), .mv (.t 7), none⟩,
  ⟨(some 38), .mv (.t 5), none⟩,
  ⟨(some 39), .ld (some 2) (.t 3), none⟩,
  ⟨(some 40), .call 40 [(.t 38), (.t 39)], none⟩,
  ⟨(some 41), .iad 1 (.t 37) (.t 40), none⟩,
  ⟨none, .st none (.t 41) (.k (.I 0)), none⟩] false
abbrev c38_22 : AC := .reg [⟨(some 9), .mv (.k (.I 0)), none⟩] false
abbrev c38_23 : AC := .reg [⟨(some 42), .mv (.t 9), none⟩,
  ⟨(some 43), .mv (.t 5), none⟩,
  ⟨(some 44), .len (.t 43), none⟩,
  ⟨(some 45), .bin .lss (.t 42) (.t 44), none⟩] false
abbrev c38_24 : AC := .cond (.t 45) .skip (.exit 2)
abbrev c38_25 : AC := .seq c38_23 c38_24
abbrev c38_26 : AC := .reg [⟨(some 10), .mv (.k (.I 0)), none⟩] false
abbrev c38_27 : AC := .reg [⟨(some 48), .mv (.t 10), none⟩,
  ⟨(some 49), .fad 2 (.t 2), none⟩,
  ⟨(some 50), .ld none (.t 49), none⟩,
  ⟨(some 51), .len (.t 50), none⟩,
  ⟨(some 52), .bin .lss (.t 48) (.t 51), none⟩] false
abbrev c38_28 : AC := .cond (.t 52) .skip (.exit 4)
abbrev c38_29 : AC := .seq c38_27 c38_28
abbrev c38_30 : AC := .reg [⟨(some 56), .fad 2 (.t 2), none⟩,
  ⟨(some 57), .ld none (.t 56), none⟩,
  ⟨(some 58), .mv (.t 10), none⟩,
  ⟨(some 59), .iad 3 (.t 57) (.t 58), none⟩,
  ⟨(some 60), .ld (some 3) (.t 59), none⟩,
  ⟨(some 61), .call 39 [(.t 60)], none⟩,
  ⟨(some 55), .mv (.t 61), none⟩,
  ⟨(some 62), .ext (.t 55) 0, none⟩,
  ⟨(some 63), .ext (.t 55) 1, none⟩,
  ⟨(some 11), .alloc 27 [(.I 0), (.I 0)], none⟩,
  ⟨(some 12), .alloc 27 [(.I 0), (.I 0)], none⟩,
  ⟨none, .st (some 2) (.t 11) (.t 62), none⟩,
  ⟨none, .st (some 2) (.t 12) (.t 63), none⟩] false
abbrev c38_31 : AC := .regD [(⟨(some 64), .mv (.t 5), none⟩, [5]),
  (⟨(some 65), .ld (some 2) (.t 11), none⟩, [11]),
  (⟨(some 66), .call 40 [(.t 64), (.t 65)], none⟩, [64, 65]),
  (⟨(some 67), .mv (.t 5), none⟩, [5]),
  (⟨(some 68), .ld (some 2) (.t 12), none⟩, [12]),
  (⟨(some 69), .call 40 [(.t 67), (.t 68)], none⟩, [67, 68]),
  (⟨(some 13), .mv (.t 66), none⟩, [66]),
  (⟨(some 14), .mv (.t 69), none⟩, [69])]
abbrev c38_32 : AC := .reg [⟨(some 70), .mv (.t 7), none⟩,
  ⟨(some 71), .mv (.t 13), none⟩,
  ⟨(some 72), .iad 1 (.t 70) (.t 71), none⟩,
  ⟨(some 73), .ld none (.t 72), none⟩,
  ⟨(some 74), .mv (.t 9), none⟩,
  ⟨(some 75), .bin .eql (.t 73) (.t 74), none⟩,
  ⟨(some 76), .mv (.t 75), none⟩,
  ⟨(some 77), .mv (.t 7), (some (76, true))⟩,
  ⟨(some 78), .mv (.t 14), (some (76, true))⟩,
  ⟨(some 79), .iad 1 (.t 77) (.t 78), (some (76, true))⟩,
  ⟨(some 80), .ld none (.t 79), (some (76, true))⟩,
  ⟨(some 81), .bin .lss (.t 80) (.k (.I 0)), (some (76, true))⟩,
  ⟨(some 82), .pick (.t 76) (.t 81) (.k (.B false)), none⟩] false
abbrev c38_33 : AC := .reg [⟨(some 83), .mv (.t 7), none⟩,
  ⟨(some 84), .mv (.t 14), none⟩,
  ⟨(some 85), .mv (.t 9), none⟩,
  ⟨(some 86), .bin .add (.t 85) (.k (.I 1)), none⟩,
  ⟨(some 87), .iad 1 (.t 83) (.t 84), none⟩,
  ⟨none, .st none (.t 87) (.t 86), none⟩] false
abbrev c38_34 : AC := .cond (.t 82) c38_33 .skip
abbrev c38_35 : AC := .seq c38_32 c38_34
abbrev c38_36 : AC := .reg [⟨(some 88), .mv (.t 7), none⟩,
  ⟨(some 89), .mv (.t 14), none⟩,
  ⟨(some 90), .iad 1 (.t 88) (.t 89), none⟩,
  ⟨(some 91), .ld none (.t 90), none⟩,
  ⟨(some 92), .mv (.t 9), none⟩,
  ⟨(some 93), .bin .eql (.t 91) (.t 92), none⟩,
  ⟨(some 94), .mv (.t 93), none⟩,
  ⟨(some 95), .mv (.t 7), (some (94, true))⟩,
  ⟨(some 96), .mv (.t 13), (some (94, true))⟩,
  ⟨(some 97), .iad 1 (.t 95) (.t 96), (some (94, true))⟩,
  ⟨(some 98), .ld none (.t 97), (some (94, true))⟩,
  ⟨(some 99), .bin .lss (.t 98) (.k (.I 0)), (some (94, true))⟩,
  ⟨(some 100), .pick (.t 94) (.t 99) (.k (.B false)), none⟩] false
abbrev c38_37 : AC := .reg [⟨(some 101), .mv (.t 7), none⟩,
  ⟨(some 102), .mv (.t 13), none⟩,
  ⟨(some 103), .mv (.t 9), none⟩,
  ⟨(some 104), .bin .add (.t 103) (.k (.I 1)), none⟩,
  ⟨(some 105), .iad 1 (.t 101) (.t 102), none⟩,
  ⟨none, .st none (.t 105) (.t 104), none⟩] false
abbrev c38_38 : AC := .cond (.t 100) c38_37 .skip
abbrev c38_39 : AC := .seq c38_36 c38_38
abbrev c38_40 : AC := .seq c38_35 c38_39
abbrev c38_41 : AC := .seq c38_31 c38_40
abbrev c38_42 : AC := .seq c38_30 c38_41
abbrev c38_43 : AC := .block 5 c38_42
abbrev c38_44 : AC := .reg [⟨(some 53), .mv (.t 10), none⟩,
  ⟨(some 54), .bin .add (.t 53) (.k (.I 1)), none⟩,
  ⟨(some 10), .mv (.t 54), none⟩] false
abbrev c38_45 : AC := .seq c38_43 c38_44
abbrev c38_46 : AC := .seq c38_29 c38_45
abbrev c38_47 : AC := .loop c38_46
abbrev c38_48 : AC := .block 4 c38_47
abbrev c38_49 : AC := .seq c38_26 c38_48
abbrev c38_50 : AC := .block 3 c38_49
abbrev c38_51 : AC := .reg [⟨(some 46), .mv (.t 9), none⟩,
  ⟨(some 47), .bin .add (.t 46) (.k (.I 1)), none⟩,
  ⟨(some 9), .mv (.t 47), none⟩] false
abbrev c38_52 : AC := .seq c38_50 c38_51
abbrev c38_53 : AC := .seq c38_25 c38_52
abbrev c38_54 : AC := .loop c38_53
abbrev c38_55 : AC := .block 2 c38_54
abbrev c38_56 : AC := .seq c38_22 c38_55
abbrev c38_57 : AC := .reg [⟨(some 106), .mv (.t 7), none⟩,
  ⟨(some 4), .mv (.t 106), none⟩] false
abbrev c38_58 : AC := .seq c38_57 .ret
abbrev c38_59 : AC := .seq c38_56 c38_58
abbrev c38_60 : AC := .seq c38_21 c38_59
abbrev c38_61 : AC := .seq c38_20 c38_60
abbrev c38_62 : AC := .seq c38_15 c38_61
abbrev c38_63 : AC := .seq c38_3 c38_62
abbrev c38_64 : AC := .seq c38_2 c38_63
abbrev c38_65 : AC := .seq c38_1 c38_64
abbrev c38 : AC := c38_65
theorem code38 : fnCode Try.prog 38 = some (c38, [4], 107) := by kernel_rfl
/- coinage/coinageref14.ends -/
abbrev c39_1 : AC := .reg [⟨(some 1), .box 47 (some 3) (.t 0), none⟩,
  ⟨(some 2), .alloc 27 [(.I 0), (.I 0)], none⟩,
  ⟨(some 3), .alloc 27 [(.I 0), (.I 0)], none⟩] false
abbrev c39_2 : AC := .regX (.first ⟨(some 4), .fad 1 (.t 1), none⟩
  (.first ⟨(some 7), .fad 2 (.t 1), none⟩
  (.fork ⟨(some 5), .ld none (.t 4), none⟩
  (.first ⟨(some 6), .build [(.I 0), (.I 0)] [(0, 1, (.k (.I 0))), (1, 1, (.t 5))], none⟩
  (.fork ⟨(some 8), .ld none (.t 7), none⟩
  (.first ⟨(some 9), .build [(.I 0), (.I 0)] [(0, 1, (.k (.I 1))), (1, 1, (.t 8))], none⟩
  (.fork ⟨none, .st (some 2) (.t 2) (.t 6), none⟩
  (.fork ⟨none, .st (some 2) (.t 3) (.t 9), none⟩
  .done
  .nope)
  .nope))
  (.fork ⟨none, .st (some 2) (.t 2) (.t 6), none⟩
  (.fork ⟨(some 8), .ld none (.t 7), none⟩
  (.first ⟨(some 9), .build [(.I 0), (.I 0)] [(0, 1, (.k (.I 1))), (1, 1, (.t 8))], none⟩
  (.fork ⟨none, .st (some 2) (.t 3) (.t 9), none⟩
  .done
  .nope))
  .nope)
  .nope)))
  (.fork ⟨(some 8), .ld none (.t 7), none⟩
  (.first ⟨(some 9), .build [(.I 0), (.I 0)] [(0, 1, (.k (.I 1))), (1, 1, (.t 8))], none⟩
  (.fork ⟨(some 5), .ld none (.t 4), none⟩
  (.first ⟨(some 6), .build [(.I 0), (.I 0)] [(0, 1, (.k (.I 0))), (1, 1, (.t 5))], none⟩
  (.fork ⟨none, .st (some 2) (.t 2) (.t 6), none⟩
  (.fork ⟨none, .st (some 2) (.t 3) (.t 9), none⟩
  .done
  .nope)
  .nope))
  .nope))
  .nope))))
abbrev c39_3 : AC := .seq c39_2 .ret
abbrev c39_4 : AC := .seq c39_1 c39_3
abbrev c39 : AC := c39_4
theorem code39 : fnCode Try.prog 39 = some (c39, [4000002, 4000003], 10) := by kernel_rfl
/- coinage/coinageref14.place -/
abbrev c40_1 : AC := .reg [⟨(some 3), .box 27 (some 2) (.t 1), none⟩,
  ⟨(some 4), .mv (.k (.I 0)), none⟩] false
abbrev c40_2 : AC := .reg [⟨(some 5), .mv (.k (.I 0)), none⟩] false
abbrev c40_3 : AC := .reg [⟨(some 6), .mv (.t 5), none⟩,
  ⟨(some 7), .mv (.t 0), none⟩,
  ⟨(some 8), .len (.t 7), none⟩,
  ⟨(some 9), .bin .lss (.t 6) (.t 8), none⟩] false
abbrev c40_4 : AC := .cond (.t 9) .skip (.exit 0)
abbrev c40_5 : AC := .seq c40_3 c40_4
abbrev c40_6 : AC := .regD [(⟨(some 12), .mv (.t 0), none⟩, [0]),
  (⟨(some 13), .mv (.t 5), none⟩, [5]),
  (⟨(some 14), .iad 2 (.t 12) (.t 13), none⟩, [12, 13]),
  (⟨(some 15), .ld (some 2) (.t 14), none⟩, [14]),
  (⟨(some 16), .ld (some 2) (.t 3), none⟩, [3]),
  (⟨(some 17), .eqs false [false, false] (.t 15) (.t 16), none⟩, [15, 16])]
abbrev c40_7 : AC := .reg [⟨(some 18), .mv (.t 5), none⟩,
  ⟨(some 4), .mv (.t 18), none⟩] false
abbrev c40_8 : AC := .seq c40_7 .ret
abbrev c40_9 : AC := .cond (.t 17) c40_8 .skip
abbrev c40_10 : AC := .seq c40_6 c40_9
abbrev c40_11 : AC := .block 1 c40_10
abbrev c40_12 : AC := .reg [⟨(some 10), .mv (.t 5), none⟩,
  ⟨(some 11), .bin .add (.t 10) (.k (.I 1)), none⟩,
  ⟨(some 5), .mv (.t 11), none⟩] false
abbrev c40_13 : AC := .seq c40_11 c40_12
abbrev c40_14 : AC := .seq c40_5 c40_13
abbrev c40_15 : AC := .loop c40_14
abbrev c40_16 : AC := .block 0 c40_15
abbrev c40_17 : AC := .seq c40_2 c40_16
abbrev c40_18 : AC := .reg [⟨(some 4), .mv (.k (.I (-1))), none⟩] false
abbrev c40_19 : AC := .seq c40_18 .ret
abbrev c40_20 : AC := .seq c40_17 c40_19
abbrev c40_21 : AC := .seq c40_1 c40_20
abbrev c40 : AC := c40_21
theorem code40 : fnCode Try.prog 40 = some (c40, [4], 19) := by kernel_rfl
/- coinage/linkage.Dies -/
abbrev c41_1 : AC := .reg [⟨(some 1), .box 25 (some 3) (.t 0), none⟩,
  ⟨(some 2), .mv (.k (.c .nil)), none⟩,
  ⟨(some 3), .mv (.k (.I 0)), none⟩] false
abbrev c41_2 : AC := .reg [⟨(some 9), .ld (some 3) (.t 1), none⟩,
  ⟨(some 10), .call 32 [(.t 9)], none⟩,
  ⟨(some 11), .not (.t 10), none⟩] false
abbrev c41_3 : AC := .reg [⟨(some 2), .mv (.k (.c .nil)), none⟩,
  ⟨(some 3), .mv (.k (.I 1)), none⟩] false
abbrev c41_4 : AC := .seq c41_3 .ret
abbrev c41_5 : AC := .cond (.t 11) c41_4 .skip
abbrev c41_6 : AC := .seq c41_2 c41_5
abbrev c41_7 : AC := .reg [⟨(some 4), .mv (.k (.c .nil)), none⟩] false
abbrev c41_8 : AC := .reg [⟨(some 12), .fad 0 (.t 1), none⟩,
  ⟨(some 13), .ld none (.t 12), none⟩,
  ⟨(some 14), .len (.t 13), none⟩,
  ⟨(some 15), .mv (.k (.I 0)), none⟩] false
abbrev c41_9 : AC := .reg [⟨(some 16), .bin .lss (.t 15) (.t 14), none⟩] false
abbrev c41_10 : AC := .cond (.t 16) .skip (.exit 0)
abbrev c41_11 : AC := .reg [⟨(some 17), .iad 1 (.t 13) (.t 15), none⟩,
  ⟨(some 18), .ld none (.t 17), none⟩,
  ⟨(some 6), .mv (.t 18), none⟩] false
abbrev c41_12 : AC := .reg [⟨(some 19), .mv (.t 4), none⟩,
  ⟨(some 20), .mv (.t 6), none⟩,
  ⟨(some 21), .build [(.I 0), (.I 0)] [(0, 1, (.k (.I 0))), (1, 1, (.t 20))], none⟩,
  ⟨(some 22), .bslice 27 2 [(.t 21)], none⟩,
  ⟨(some 23), .app 27 2 16 (.t 19) (.t 22), none⟩,
  ⟨(some 4), .mv (.t 23), none⟩] false
abbrev c41_13 : AC := .seq c41_11 c41_12
abbrev c41_14 : AC := .block 1 c41_13
abbrev c41_15 : AC := .reg [⟨(some 24), .bin .add (.t 15) (.k (.I 1)), none⟩,
  ⟨(some 15), .mv (.t 24), none⟩] false
abbrev c41_16 : AC := .seq c41_14 c41_15
abbrev c41_17 : AC := .seq c41_10 c41_16
abbrev c41_18 : AC := .seq c41_9 c41_17
abbrev c41_19 : AC := .loop c41_18
abbrev c41_20 : AC := .block 0 c41_19
abbrev c41_21 : AC := .seq c41_8 c41_20
abbrev c41_22 : AC := .reg [⟨(some 25), .fad 1 (.t 1), none⟩,
  ⟨(some 26), .ld none (.t 25), none⟩,
  ⟨(some 27), .len (.t 26), none⟩,
  ⟨(some 28), .mv (.k (.I 0)), none⟩] false
abbrev c41_23 : AC := .reg [⟨(some 29), .bin .lss (.t 28) (.t 27), none⟩] false
abbrev c41_24 : AC := .cond (.t 29) .skip (.exit 2)
abbrev c41_25 : AC := .reg [⟨(some 30), .iad 1 (.t 26) (.t 28), none⟩,
  ⟨(some 31), .ld none (.t 30), none⟩,
  ⟨(some 8), .mv (.t 31), none⟩] false
abbrev c41_26 : AC := .reg [⟨(some 32), .mv (.t 4), none⟩,
  ⟨(some 33), .mv (.t 8), none⟩,
  ⟨(some 34), .build [(.I 0), (.I 0)] [(0, 1, (.k (.I 1))), (1, 1, (.t 33))], none⟩,
  ⟨(some 35), .bslice 27 2 [(.t 34)], none⟩,
  ⟨(some 36), .app 27 2 16 (.t 32) (.t 35), none⟩,
  ⟨(some 4), .mv (.t 36), none⟩] false
abbrev c41_27 : AC := .seq c41_25 c41_26
abbrev c41_28 : AC := .block 3 c41_27
abbrev c41_29 : AC := .reg [⟨(some 37), .bin .add (.t 28) (.k (.I 1)), none⟩,
  ⟨(some 28), .mv (.t 37), none⟩] false
abbrev c41_30 : AC := .seq c41_28 c41_29
abbrev c41_31 : AC := .seq c41_24 c41_30
abbrev c41_32 : AC := .seq c41_23 c41_31
abbrev c41_33 : AC := .loop c41_32
abbrev c41_34 : AC := .block 2 c41_33
abbrev c41_35 : AC := .seq c41_22 c41_34
abbrev c41_36 : AC := .reg [⟨(some 38), .mv (.t 4), none⟩,
  ⟨(some 2), .mv (.t 38), none⟩,
  ⟨(some 3), .mv (.k (.I 0)), none⟩] false
abbrev c41_37 : AC := .seq c41_36 .ret
abbrev c41_38 : AC := .seq c41_35 c41_37
abbrev c41_39 : AC := .seq c41_21 c41_38
abbrev c41_40 : AC := .seq c41_7 c41_39
abbrev c41_41 : AC := .seq c41_6 c41_40
abbrev c41_42 : AC := .seq c41_1 c41_41
abbrev c41 : AC := c41_42
theorem code41 : fnCode Try.prog 41 = some (c41, [2, 3], 39) := by kernel_rfl
/- coinage/component.steps -/
abbrev c42_1 : AC := .reg [⟨(some 2), .box 25 (some 3) (.t 0), none⟩,
  ⟨(some 3), .box 27 (some 2) (.t 1), none⟩,
  ⟨(some 4), .mv (.k (.c .mn)), none⟩] false
abbrev c42_2 : AC := .reg [⟨(some 14), .mkmap (.agg [.i64, .i64]), none⟩,
  ⟨(some 15), .ld (some 2) (.t 3), none⟩,
  ⟨none, .mset (.agg [.i64, .i64]) (.t 14) (.t 15) (.k (.I 0)), none⟩,
  ⟨(some 16), .mv (.t 14), none⟩,
  ⟨(some 5), .mv (.t 16), none⟩] false
abbrev c42_3 : AC := .reg [⟨(some 17), .ld (some 2) (.t 3), none⟩,
  ⟨(some 18), .bslice 27 2 [(.t 17)], none⟩,
  ⟨(some 6), .mv (.t 18), none⟩] false
abbrev c42_4 : AC := .reg [⟨(some 19), .mv (.t 6), none⟩,
  ⟨(some 20), .len (.t 19), none⟩,
  ⟨(some 21), .bin .gtr (.t 20) (.k (.I 0)), none⟩] false
abbrev c42_5 : AC := .cond (.t 21) .skip (.exit 0)
abbrev c42_6 : AC := .seq c42_4 c42_5
abbrev c42_7 : AC := .reg [⟨(some 24), .mv (.t 6), none⟩,
  ⟨(some 25), .iad 2 (.t 24) (.k (.I 0)), none⟩,
  ⟨(some 26), .ld (some 2) (.t 25), none⟩,
  ⟨(some 7), .alloc 27 [(.I 0), (.I 0)], none⟩,
  ⟨none, .st (some 2) (.t 7) (.t 26), none⟩] false
abbrev c42_8 : AC := .reg [⟨(some 27), .fad 2 (.t 2), none⟩,
  ⟨(some 28), .ld none (.t 27), none⟩,
  ⟨(some 29), .len (.t 28), none⟩,
  ⟨(some 30), .mv (.k (.I 0)), none⟩] false
abbrev c42_9 : AC := .reg [⟨(some 31), .bin .lss (.t 30) (.t 29), none⟩] false
abbrev c42_10 : AC := .cond (.t 31) .skip (.exit 2)
abbrev c42_11 : AC := .reg [⟨(some 32), .iad 3 (.t 28) (.t 30), none⟩,
  ⟨(some 33), .ld (some 3) (.t 32), none⟩,
  ⟨(some 9), .alloc 47 [(.I 0), (.I 0), (.I 0)], none⟩,
  ⟨none, .st (some 3) (.t 9) (.t 33), none⟩] false
abbrev c42_12 : AC := .reg [⟨(some 35), .ld (some 3) (.t 9), none⟩,
  ⟨(some 36), .ld (some 2) (.t 7), none⟩,
  ⟨(some 37), .call 36 [(.t 35), (.t 36)], none⟩,
  ⟨(some 34), .mv (.t 37), none⟩,
  ⟨(some 38), .ext (.t 34) 0, none⟩,
  ⟨(some 39), .ext (.t 34) 1, none⟩,
  ⟨(some 10), .alloc 27 [(.I 0), (.I 0)], none⟩,
  ⟨none, .st (some 2) (.t 10) (.t 38), none⟩,
  ⟨(some 11), .mv (.t 39), none⟩] false
abbrev c42_13 : AC := .reg [⟨(some 41), .mv (.t 5), none⟩,
  ⟨(some 42), .ld (some 2) (.t 10), none⟩,
  ⟨(some 43), .look (.agg [.i64, .i64]) (.inl (.sc (.int .i64 0))) true (.t 41) (.t 42), none⟩,
  ⟨(some 40), .mv (.t 43), none⟩,
  ⟨(some 44), .ext (.t 40) 0, none⟩,
  ⟨(some 45), .ext (.t 40) 1, none⟩,
  ⟨(some 12), .mv (.t 44), none⟩,
  ⟨(some 13), .mv (.t 45), none⟩] false
abbrev c42_14 : AC := .reg [⟨(some 46), .mv (.t 11), none⟩,
  ⟨(some 47), .mv (.t 46), none⟩,
  ⟨(some 48), .mv (.t 13), (some (47, true))⟩,
  ⟨(some 49), .not (.t 48), (some (47, true))⟩,
  ⟨(some 50), .pick (.t 47) (.t 49) (.k (.B false)), none⟩] false
abbrev c42_15 : AC := .regX (.first ⟨(some 51), .mv (.t 5), none⟩
  (.first ⟨(some 53), .mv (.t 5), none⟩
  (.fork ⟨(some 52), .ld (some 2) (.t 10), none⟩
  (.fork ⟨(some 54), .ld (some 2) (.t 7), none⟩
  (.fork ⟨(some 55), .look (.agg [.i64, .i64]) (.inl (.sc (.int .i64 0))) false (.t 53) (.t 54), none⟩
  (.first ⟨(some 56), .bin .add (.t 55) (.k (.I 1)), none⟩
  (.fork ⟨none, .mset (.agg [.i64, .i64]) (.t 51) (.t 52) (.t 56), none⟩
  .done
  .nope))
  .nope)
  .nope)
  (.fork ⟨(some 54), .ld (some 2) (.t 7), none⟩
  (.fork ⟨(some 52), .ld (some 2) (.t 10), none⟩
  (.fork ⟨(some 55), .look (.agg [.i64, .i64]) (.inl (.sc (.int .i64 0))) false (.t 53) (.t 54), none⟩
  (.first ⟨(some 56), .bin .add (.t 55) (.k (.I 1)), none⟩
  (.fork ⟨none, .mset (.agg [.i64, .i64]) (.t 51) (.t 52) (.t 56), none⟩
  .done
  .nope))
  .nope)
  (.fork ⟨(some 55), .look (.agg [.i64, .i64]) (.inl (.sc (.int .i64 0))) false (.t 53) (.t 54), none⟩
  (.first ⟨(some 56), .bin .add (.t 55) (.k (.I 1)), none⟩
  (.fork ⟨(some 52), .ld (some 2) (.t 10), none⟩
  (.fork ⟨none, .mset (.agg [.i64, .i64]) (.t 51) (.t 52) (.t 56), none⟩
  .done
  .nope)
  .nope))
  .nope))
  .nope))))
abbrev c42_16 : AC := .reg [⟨(some 57), .mv (.t 6), none⟩,
  ⟨(some 58), .ld (some 2) (.t 10), none⟩,
  ⟨(some 59), .bslice 27 2 [(.t 58)], none⟩,
  ⟨(some 60), .app 27 2 16 (.t 57) (.t 59), none⟩,
  ⟨(some 6), .mv (.t 60), none⟩] false
abbrev c42_17 : AC := .seq c42_15 c42_16
abbrev c42_18 : AC := .cond (.t 50) c42_17 .skip
abbrev c42_19 : AC := .seq c42_14 c42_18
abbrev c42_20 : AC := .seq c42_13 c42_19
abbrev c42_21 : AC := .seq c42_12 c42_20
abbrev c42_22 : AC := .seq c42_11 c42_21
abbrev c42_23 : AC := .block 3 c42_22
abbrev c42_24 : AC := .reg [⟨(some 61), .bin .add (.t 30) (.k (.I 1)), none⟩,
  ⟨(some 30), .mv (.t 61), none⟩] false
abbrev c42_25 : AC := .seq c42_23 c42_24
abbrev c42_26 : AC := .seq c42_10 c42_25
abbrev c42_27 : AC := .seq c42_9 c42_26
abbrev c42_28 : AC := .loop c42_27
abbrev c42_29 : AC := .block 2 c42_28
abbrev c42_30 : AC := .seq c42_8 c42_29
abbrev c42_31 : AC := .seq c42_7 c42_30
abbrev c42_32 : AC := .block 1 c42_31
abbrev c42_33 : AC := .reg [⟨(some 22), .mv (.t 6), none⟩,
  ⟨(some 23), .slc 2 (.t 22) (some (.k (.I 1))) none, none⟩,
  ⟨(some 6), .mv (.t 23), none⟩] false
abbrev c42_34 : AC := .seq c42_32 c42_33
abbrev c42_35 : AC := .seq c42_6 c42_34
abbrev c42_36 : AC := .loop c42_35
abbrev c42_37 : AC := .block 0 c42_36
abbrev c42_38 : AC := .seq c42_3 c42_37
abbrev c42_39 : AC := .reg [⟨(some 62), .mv (.t 5), none⟩,
  ⟨(some 4), .mv (.t 62), none⟩] false
abbrev c42_40 : AC := .seq c42_39 .ret
abbrev c42_41 : AC := .seq c42_38 c42_40
abbrev c42_42 : AC := .seq c42_2 c42_41
abbrev c42_43 : AC := .seq c42_1 c42_42
abbrev c42 : AC := c42_43
theorem code42 : fnCode Try.prog 42 = some (c42, [4], 63) := by kernel_rfl
/- coinage/coinageref14.Number -/
abbrev c43_1 : AC := .reg [⟨(some 1), .box 25 (some 3) (.t 0), none⟩,
  ⟨(some 2), .mv (.k (.I 0)), none⟩] false
abbrev c43_2 : AC := .reg [⟨(some 8), .ld (some 3) (.t 1), none⟩,
  ⟨(some 9), .call 22 [(.t 8)], none⟩,
  ⟨(some 7), .mv (.t 9), none⟩,
  ⟨(some 10), .ext (.t 7) 0, none⟩,
  ⟨(some 11), .ext (.t 7) 1, none⟩,
  ⟨(some 3), .mv (.t 10), none⟩,
  ⟨(some 4), .mv (.t 11), none⟩] false
abbrev c43_3 : AC := .reg [⟨(some 5), .mv (.k (.I 0)), none⟩] false
abbrev c43_4 : AC := .reg [⟨(some 6), .mv (.k (.I 0)), none⟩] false
abbrev c43_5 : AC := .reg [⟨(some 12), .mv (.t 6), none⟩,
  ⟨(some 13), .mv (.t 3), none⟩,
  ⟨(some 14), .len (.t 13), none⟩,
  ⟨(some 15), .bin .lss (.t 12) (.t 14), none⟩] false
abbrev c43_6 : AC := .cond (.t 15) .skip (.exit 0)
abbrev c43_7 : AC := .seq c43_5 c43_6
abbrev c43_8 : AC := .reg [⟨(some 18), .mv (.t 5), none⟩,
  ⟨(some 19), .mv (.t 3), none⟩,
  ⟨(some 20), .mv (.t 6), none⟩,
  ⟨(some 21), .iad 1 (.t 19) (.t 20), none⟩,
  ⟨(some 22), .ld none (.t 21), none⟩,
  ⟨(some 23), .bin .add (.t 22) (.k (.I 1)), none⟩,
  ⟨(some 24), .minmax true (.t 18) (.t 23), none⟩,
  ⟨(some 5), .mv (.t 24), none⟩] false
abbrev c43_9 : AC := .block 1 c43_8
abbrev c43_10 : AC := .reg [⟨(some 16), .mv (.t 6), none⟩,
  ⟨(some 17), .bin .add (.t 16) (.k (.I 1)), none⟩,
  ⟨(some 6), .mv (.t 17), none⟩] false
abbrev c43_11 : AC := .seq c43_9 c43_10
abbrev c43_12 : AC := .seq c43_7 c43_11
abbrev c43_13 : AC := .loop c43_12
abbrev c43_14 : AC := .block 0 c43_13
abbrev c43_15 : AC := .seq c43_4 c43_14
abbrev c43_16 : AC := .reg [⟨(some 25), .mv (.t 5), none⟩,
  ⟨(some 2), .mv (.t 25), none⟩] false
abbrev c43_17 : AC := .seq c43_16 .ret
abbrev c43_18 : AC := .seq c43_15 c43_17
abbrev c43_19 : AC := .seq c43_3 c43_18
abbrev c43_20 : AC := .seq c43_2 c43_19
abbrev c43_21 : AC := .seq c43_1 c43_20
abbrev c43 : AC := c43_21
theorem code43 : fnCode Try.prog 43 = some (c43, [2], 26) := by kernel_rfl
/- coinage/coinagebase.Dies -/
abbrev c44_1 : AC := .reg [⟨(some 4), .mv (.k (.B false)), none⟩] false
abbrev c44_2 : AC := .reg [⟨(some 6), .mv (.t 0), none⟩,
  ⟨(some 7), .len (.t 6), none⟩,
  ⟨(some 8), .mv (.t 1), none⟩,
  ⟨(some 9), .len (.t 8), none⟩,
  ⟨(some 10), .bin .neq (.t 7) (.t 9), none⟩] false
abbrev c44_3 : AC := .reg [⟨(some 4), .mv (.k (.B false)), none⟩] false
abbrev c44_4 : AC := .seq c44_3 .ret
abbrev c44_5 : AC := .cond (.t 10) c44_4 .skip
abbrev c44_6 : AC := .seq c44_2 c44_5
abbrev c44_7 : AC := .reg [⟨(some 5), .mv (.k (.I 0)), none⟩] false
abbrev c44_8 : AC := .reg [⟨(some 11), .mv (.t 5), none⟩,
  ⟨(some 12), .mv (.t 0), none⟩,
  ⟨(some 13), .len (.t 12), none⟩,
  ⟨(some 14), .bin .lss (.t 11) (.t 13), none⟩] false
abbrev c44_9 : AC := .cond (.t 14) .skip (.exit 0)
abbrev c44_10 : AC := .seq c44_8 c44_9
abbrev c44_11 : AC := .regD [(⟨(some 17), .mv (.t 0), none⟩, [0]),
  (⟨(some 18), .mv (.t 5), none⟩, [5]),
  (⟨(some 19), .iad 2 (.t 17) (.t 18), none⟩, [17, 18]),
  (⟨(some 20), .ld (some 2) (.t 19), none⟩, [19]),
  (⟨(some 21), .mv (.t 1), none⟩, [1]),
  (⟨(some 22), .mv (.t 5), none⟩, [5]),
  (⟨(some 23), .iad 2 (.t 21) (.t 22), none⟩, [21, 22]),
  (⟨(some 24), .ld (some 2) (.t 23), none⟩, [23]),
  (⟨(some 25), .eqs true [false, false] (.t 20) (.t 24), none⟩, [20, 24])]
abbrev c44_12 : AC := .reg [⟨(some 4), .mv (.k (.B false)), none⟩] false
abbrev c44_13 : AC := .seq c44_12 .ret
abbrev c44_14 : AC := .cond (.t 25) c44_13 .skip
abbrev c44_15 : AC := .seq c44_11 c44_14
abbrev c44_16 : AC := .block 1 c44_15
abbrev c44_17 : AC := .reg [⟨(some 15), .mv (.t 5), none⟩,
  ⟨(some 16), .bin .add (.t 15) (.k (.I 1)), none⟩,
  ⟨(some 5), .mv (.t 16), none⟩] false
abbrev c44_18 : AC := .seq c44_16 c44_17
abbrev c44_19 : AC := .seq c44_10 c44_18
abbrev c44_20 : AC := .loop c44_19
abbrev c44_21 : AC := .block 0 c44_20
abbrev c44_22 : AC := .seq c44_7 c44_21
abbrev c44_23 : AC := .reg [⟨(some 4), .mv (.k (.B true)), none⟩] false
abbrev c44_24 : AC := .seq c44_23 .ret
abbrev c44_25 : AC := .seq c44_22 c44_24
abbrev c44_26 : AC := .seq c44_6 c44_25
abbrev c44_27 : AC := .seq c44_1 c44_26
abbrev c44 : AC := c44_27
theorem code44 : fnCode Try.prog 44 = some (c44, [4], 26) := by kernel_rfl
/- coinage/coinagebase.Graph -/
abbrev c45_1 : AC := .reg [⟨(some 1), .box 25 (some 3) (.t 0), none⟩,
  ⟨(some 2), .mv (.k (.B false)), none⟩] false
abbrev c45_2 : AC := .reg [⟨(some 9), .fad 0 (.t 1), none⟩,
  ⟨(some 10), .ld none (.t 9), none⟩,
  ⟨(some 11), .len (.t 10), none⟩,
  ⟨(some 12), .bin .gtr (.t 11) (.k (.I 32)), none⟩,
  ⟨(some 13), .mv (.t 12), none⟩,
  ⟨(some 14), .fad 1 (.t 1), (some (13, false))⟩,
  ⟨(some 15), .ld none (.t 14), (some (13, false))⟩,
  ⟨(some 16), .len (.t 15), (some (13, false))⟩,
  ⟨(some 17), .bin .gtr (.t 16) (.k (.I 32)), (some (13, false))⟩,
  ⟨(some 18), .pick (.t 13) (.k (.B true)) (.t 17), none⟩,
  ⟨(some 19), .mv (.t 18), none⟩,
  ⟨(some 20), .fad 2 (.t 1), (some (19, false))⟩,
  ⟨(some 21), .ld none (.t 20), (some (19, false))⟩,
  ⟨(some 22), .len (.t 21), (some (19, false))⟩,
  ⟨(some 23), .bin .gtr (.t 22) (.k (.I 64)), (some (19, false))⟩,
  ⟨(some 24), .pick (.t 19) (.k (.B true)) (.t 23), none⟩,
  ⟨(some 25), .mv (.t 24), none⟩,
  ⟨(some 26), .fad 0 (.t 1), (some (25, false))⟩,
  ⟨(some 27), .ld none (.t 26), (some (25, false))⟩,
  ⟨(some 28), .call 58 [(.t 27), (.k (.I 1)), (.k (.I 999))], (some (25, false))⟩,
  ⟨(some 29), .not (.t 28), (some (25, false))⟩,
  ⟨(some 30), .pick (.t 25) (.k (.B true)) (.t 29), none⟩,
  ⟨(some 31), .mv (.t 30), none⟩,
  ⟨(some 32), .fad 1 (.t 1), (some (31, false))⟩,
  ⟨(some 33), .ld none (.t 32), (some (31, false))⟩,
  ⟨(some 34), .call 58 [(.t 33), (.k (.I 1)), (.k (.I 999))], (some (31, false))⟩,
  ⟨(some 35), .not (.t 34), (some (31, false))⟩,
  ⟨(some 36), .pick (.t 31) (.k (.B true)) (.t 35), none⟩] false
abbrev c45_3 : AC := .reg [⟨(some 2), .mv (.k (.B false)), none⟩] false
abbrev c45_4 : AC := .seq c45_3 .ret
abbrev c45_5 : AC := .cond (.t 36) c45_4 .skip
abbrev c45_6 : AC := .seq c45_2 c45_5
abbrev c45_7 : AC := .reg [⟨(some 3), .mv (.k (.c .nil)), none⟩] false
abbrev c45_8 : AC := .reg [⟨(some 4), .mv (.k (.c .nil)), none⟩] false
abbrev c45_9 : AC := .reg [⟨(some 5), .mv (.k (.I 0)), none⟩] false
abbrev c45_10 : AC := .reg [⟨(some 37), .mv (.t 5), none⟩,
  ⟨(some 38), .fad 2 (.t 1), none⟩,
  ⟨(some 39), .ld none (.t 38), none⟩,
  ⟨(some 40), .len (.t 39), none⟩,
  ⟨(some 41), .bin .lss (.t 37) (.t 40), none⟩] false
abbrev c45_11 : AC := .cond (.t 41) .skip (.exit 0)
abbrev c45_12 : AC := .seq c45_10 c45_11
abbrev c45_13 : AC := .reg [⟨(some 44), .fad 2 (.t 1), none⟩,
  ⟨(some 45), .ld none (.t 44), none⟩,
  ⟨(some 46), .mv (.t 5), none⟩,
  ⟨(some 47), .iad 3 (.t 45) (.t 46), none⟩,
  ⟨(some 48), .ld (some 3) (.t 47), none⟩,
  ⟨(some 6), .alloc 47 [(.I 0), (.I 0), (.I 0)], none⟩,
  ⟨none, .st (some 3) (.t 6) (.t 48), none⟩] false
abbrev c45_14 : AC := .regD [(⟨(some 49), .fad 0 (.t 6), none⟩, [6]),
  (⟨(some 50), .ld none (.t 49), none⟩, [49]),
  (⟨(some 51), .call 59 [(.t 50)], none⟩, [50]),
  (⟨(some 52), .not (.t 51), none⟩, [51]),
  (⟨(some 53), .mv (.t 52), none⟩, [52]),
  (⟨(some 54), .mv (.t 5), (some (53, false))⟩, [5, 53]),
  (⟨(some 55), .bin .gtr (.t 54) (.k (.I 0)), (some (53, false))⟩, [54, 53]),
  (⟨(some 56), .mv (.t 55), (some (53, false))⟩, [55, 53]),
  (⟨(some 57), .fad 0 (.t 6), (some (56, true))⟩, [6, 56]),
  (⟨(some 58), .ld none (.t 57), (some (56, true))⟩, [57, 56]),
  (⟨(some 59), .fad 2 (.t 1), (some (56, true))⟩, [1, 56]),
  (⟨(some 60), .ld none (.t 59), (some (56, true))⟩, [59, 56]),
  (⟨(some 61), .mv (.t 5), (some (56, true))⟩, [5, 56]),
  (⟨(some 62), .bin .sub (.t 61) (.k (.I 1)), (some (56, true))⟩, [61, 56]),
  (⟨(some 63), .iad 3 (.t 60) (.t 62), (some (56, true))⟩, [60, 62, 56]),
  (⟨(some 64), .fad 0 (.t 63), (some (56, true))⟩, [63, 56]),
  (⟨(some 65), .ld none (.t 64), (some (56, true))⟩, [64, 56]),
  (⟨(some 66), .bin .leq (.t 58) (.t 65), (some (56, true))⟩, [58, 65, 56]),
  (⟨(some 67), .pick (.t 56) (.t 66) (.k (.B false)), (some (53, false))⟩, [56, 66, 53]),
  (⟨(some 68), .pick (.t 53) (.k (.B true)) (.t 67), none⟩, [53, 67]),
  (⟨(some 69), .mv (.t 68), none⟩, [68]),
  (⟨(some 70), .fad 0 (.t 1), (some (69, false))⟩, [1, 69]),
  (⟨(some 71), .ld none (.t 70), (some (69, false))⟩, [70, 69]),
  (⟨(some 72), .fad 1 (.t 6), (some (69, false))⟩, [6, 69]),
  (⟨(some 73), .ld none (.t 72), (some (69, false))⟩, [72, 69]),
  (⟨(some 74), .call 60 [(.t 71), (.t 73)], (some (69, false))⟩, [71, 73, 69]),
  (⟨(some 75), .not (.t 74), (some (69, false))⟩, [74, 69]),
  (⟨(some 76), .pick (.t 69) (.k (.B true)) (.t 75), none⟩, [69, 75]),
  (⟨(some 77), .mv (.t 76), none⟩, [76]),
  (⟨(some 78), .fad 1 (.t 1), (some (77, false))⟩, [1, 77]),
  (⟨(some 79), .ld none (.t 78), (some (77, false))⟩, [78, 77]),
  (⟨(some 80), .fad 2 (.t 6), (some (77, false))⟩, [6, 77]),
  (⟨(some 81), .ld none (.t 80), (some (77, false))⟩, [80, 77]),
  (⟨(some 82), .call 60 [(.t 79), (.t 81)], (some (77, false))⟩, [79, 81, 77]),
  (⟨(some 83), .not (.t 82), (some (77, false))⟩, [82, 77]),
  (⟨(some 84), .pick (.t 77) (.k (.B true)) (.t 83), none⟩, [77, 83])]
abbrev c45_15 : AC := .reg [⟨(some 2), .mv (.k (.B false)), none⟩] false
abbrev c45_16 : AC := .seq c45_15 .ret
abbrev c45_17 : AC := .cond (.t 84) c45_16 .skip
abbrev c45_18 : AC := .seq c45_14 c45_17
abbrev c45_19 : AC := .reg [⟨(some 85), .mv (.t 3), none⟩,
  ⟨(some 86), .fad 1 (.t 6), none⟩,
  ⟨(some 87), .ld none (.t 86), none⟩,
  ⟨(some 88), .bslice 3 1 [(.t 87)], none⟩,
  ⟨(some 89), .app 3 1 8 (.t 85) (.t 88), none⟩,
  ⟨(some 3), .mv (.t 89), none⟩] false
abbrev c45_20 : AC := .reg [⟨(some 90), .mv (.t 4), none⟩,
  ⟨(some 91), .fad 2 (.t 6), none⟩,
  ⟨(some 92), .ld none (.t 91), none⟩,
  ⟨(some 93), .bslice 3 1 [(.t 92)], none⟩,
  ⟨(some 94), .app 3 1 8 (.t 90) (.t 93), none⟩,
  ⟨(some 4), .mv (.t 94), none⟩] false
abbrev c45_21 : AC := .seq c45_19 c45_20
abbrev c45_22 : AC := .seq c45_18 c45_21
abbrev c45_23 : AC := .seq c45_13 c45_22
abbrev c45_24 : AC := .block 1 c45_23
abbrev c45_25 : AC := .reg [⟨(some 42), .mv (.t 5), none⟩,
  ⟨(some 43), .bin .add (.t 42) (.k (.I 1)), none⟩,
  ⟨(some 5), .mv (.t 43), none⟩] false
abbrev c45_26 : AC := .seq c45_24 c45_25
abbrev c45_27 : AC := .seq c45_12 c45_26
abbrev c45_28 : AC := .loop c45_27
abbrev c45_29 : AC := .block 0 c45_28
abbrev c45_30 : AC := .seq c45_9 c45_29
abbrev c45_31 : AC := .reg [⟨(some 7), .mv (.k (.I 0)), none⟩] false
abbrev c45_32 : AC := .reg [⟨(some 95), .mv (.t 7), none⟩,
  ⟨(some 96), .fad 0 (.t 1), none⟩,
  ⟨(some 97), .ld none (.t 96), none⟩,
  ⟨(some 98), .len (.t 97), none⟩,
  ⟨(some 99), .bin .lss (.t 95) (.t 98), none⟩] false
abbrev c45_33 : AC := .cond (.t 99) .skip (.exit 2)
abbrev c45_34 : AC := .seq c45_32 c45_33
abbrev c45_35 : AC := .reg [⟨(some 102), .mv (.t 3), none⟩,
  ⟨(some 103), .fad 0 (.t 1), none⟩,
  ⟨(some 104), .ld none (.t 103), none⟩,
  ⟨(some 105), .mv (.t 7), none⟩,
  ⟨(some 106), .iad 1 (.t 104) (.t 105), none⟩,
  ⟨(some 107), .ld none (.t 106), none⟩,
  ⟨(some 108), .call 60 [(.t 102), (.t 107)], none⟩,
  ⟨(some 109), .not (.t 108), none⟩] false
abbrev c45_36 : AC := .reg [⟨(some 2), .mv (.k (.B false)), none⟩] false
abbrev c45_37 : AC := .seq c45_36 .ret
abbrev c45_38 : AC := .cond (.t 109) c45_37 .skip
abbrev c45_39 : AC := .seq c45_35 c45_38
abbrev c45_40 : AC := .block 3 c45_39
abbrev c45_41 : AC := .reg [⟨(some 100), .mv (.t 7), none⟩,
  ⟨(some 101), .bin .add (.t 100) (.k (.I 1)), none⟩,
  ⟨(some 7), .mv (.t 101), none⟩] false
abbrev c45_42 : AC := .seq c45_40 c45_41
abbrev c45_43 : AC := .seq c45_34 c45_42
abbrev c45_44 : AC := .loop c45_43
abbrev c45_45 : AC := .block 2 c45_44
abbrev c45_46 : AC := .seq c45_31 c45_45
abbrev c45_47 : AC := .reg [⟨(some 8), .mv (.k (.I 0)), none⟩] false
abbrev c45_48 : AC := .reg [⟨(some 110), .mv (.t 8), none⟩,
  ⟨(some 111), .fad 1 (.t 1), none⟩,
  ⟨(some 112), .ld none (.t 111), none⟩,
  ⟨(some 113), .len (.t 112), none⟩,
  ⟨(some 114), .bin .lss (.t 110) (.t 113), none⟩] false
abbrev c45_49 : AC := .cond (.t 114) .skip (.exit 4)
abbrev c45_50 : AC := .seq c45_48 c45_49
abbrev c45_51 : AC := .reg [⟨(some 117), .mv (.t 4), none⟩,
  ⟨(some 118), .fad 1 (.t 1), none⟩,
  ⟨(some 119), .ld none (.t 118), none⟩,
  ⟨(some 120), .mv (.t 8), none⟩,
  ⟨(some 121), .iad 1 (.t 119) (.t 120), none⟩,
  ⟨(some 122), .ld none (.t 121), none⟩,
  ⟨(some 123), .call 60 [(.t 117), (.t 122)], none⟩,
  ⟨(some 124), .not (.t 123), none⟩] false
abbrev c45_52 : AC := .reg [⟨(some 2), .mv (.k (.B false)), none⟩] false
abbrev c45_53 : AC := .seq c45_52 .ret
abbrev c45_54 : AC := .cond (.t 124) c45_53 .skip
abbrev c45_55 : AC := .seq c45_51 c45_54
abbrev c45_56 : AC := .block 5 c45_55
abbrev c45_57 : AC := .reg [⟨(some 115), .mv (.t 8), none⟩,
  ⟨(some 116), .bin .add (.t 115) (.k (.I 1)), none⟩,
  ⟨(some 8), .mv (.t 116), none⟩] false
abbrev c45_58 : AC := .seq c45_56 c45_57
abbrev c45_59 : AC := .seq c45_50 c45_58
abbrev c45_60 : AC := .loop c45_59
abbrev c45_61 : AC := .block 4 c45_60
abbrev c45_62 : AC := .seq c45_47 c45_61
abbrev c45_63 : AC := .reg [⟨(some 2), .mv (.k (.B true)), none⟩] false
abbrev c45_64 : AC := .seq c45_63 .ret
abbrev c45_65 : AC := .seq c45_62 c45_64
abbrev c45_66 : AC := .seq c45_46 c45_65
abbrev c45_67 : AC := .seq c45_30 c45_66
abbrev c45_68 : AC := .seq c45_8 c45_67
abbrev c45_69 : AC := .seq c45_7 c45_68
abbrev c45_70 : AC := .seq c45_6 c45_69
abbrev c45_71 : AC := .seq c45_1 c45_70
abbrev c45 : AC := c45_71
theorem code45 : fnCode Try.prog 45 = some (c45, [2], 125) := by kernel_rfl
/- coinage/coinageref13.with -/
abbrev c46_1 : AC := .reg [⟨(some 4), .mv (.k (.c .nil)), none⟩] false
abbrev c46_2 : AC := .reg [⟨(some 5), .mv (.k (.I 0)), none⟩] false
abbrev c46_3 : AC := .reg [⟨(some 6), .mv (.t 5), none⟩,
  ⟨(some 7), .mv (.t 0), none⟩,
  ⟨(some 8), .len (.t 7), none⟩,
  ⟨(some 9), .bin .lss (.t 6) (.t 8), none⟩,
  ⟨(some 10), .mv (.t 9), none⟩,
  ⟨(some 11), .mv (.t 0), (some (10, true))⟩,
  ⟨(some 12), .mv (.t 5), (some (10, true))⟩,
  ⟨(some 13), .iad 1 (.t 11) (.t 12), (some (10, true))⟩,
  ⟨(some 14), .ld none (.t 13), (some (10, true))⟩,
  ⟨(some 15), .mv (.t 1), (some (10, true))⟩,
  ⟨(some 16), .bin .lss (.t 14) (.t 15), (some (10, true))⟩,
  ⟨(some 17), .pick (.t 10) (.t 16) (.k (.B false)), none⟩] false
abbrev c46_4 : AC := .cond (.t 17) .skip (.exit 0)
abbrev c46_5 : AC := .seq c46_3 c46_4
abbrev c46_6 : AC := .reg [⟨(some 18), .mv (.t 5), none⟩,
  ⟨(some 19), .bin .add (.t 18) (.k (.I 1)), none⟩,
  ⟨(some 5), .mv (.t 19), none⟩] false
abbrev c46_7 : AC := .block 1 c46_6
abbrev c46_8 : AC := .seq c46_5 c46_7
abbrev c46_9 : AC := .loop c46_8
abbrev c46_10 : AC := .block 0 c46_9
abbrev c46_11 : AC := .reg [⟨(some 20), .mv (.t 5), none⟩,
  ⟨(some 21), .mv (.t 0), none⟩,
  ⟨(some 22), .len (.t 21), none⟩,
  ⟨(some 23), .bin .lss (.t 20) (.t 22), none⟩,
  ⟨(some 24), .mv (.t 23), none⟩,
  ⟨(some 25), .mv (.t 0), (some (24, true))⟩,
  ⟨(some 26), .mv (.t 5), (some (24, true))⟩,
  ⟨(some 27), .iad 1 (.t 25) (.t 26), (some (24, true))⟩,
  ⟨(some 28), .ld none (.t 27), (some (24, true))⟩,
  ⟨(some 29), .mv (.t 1), (some (24, true))⟩,
  ⟨(some 30), .bin .eql (.t 28) (.t 29), (some (24, true))⟩,
  ⟨(some 31), .pick (.t 24) (.t 30) (.k (.B false)), none⟩] false
abbrev c46_12 : AC := .reg [⟨(some 32), .mv (.t 0), none⟩,
  ⟨(some 4), .mv (.t 32), none⟩] false
abbrev c46_13 : AC := .seq c46_12 .ret
abbrev c46_14 : AC := .cond (.t 31) c46_13 .skip
abbrev c46_15 : AC := .seq c46_11 c46_14
abbrev c46_16 : AC := .regX (.first ⟨(some 34), .mv (.t 0), none⟩
  (.first ⟨(some 35), .mv (.t 5), none⟩
  (.first ⟨(some 38), .mv (.t 1), none⟩
  (.first ⟨(some 41), .mv (.t 0), none⟩
  (.first ⟨(some 42), .mv (.t 5), none⟩
  (.fork ⟨(some 33), .bslice 3 1 [], none⟩
  (.fork ⟨(some 36), .slc 1 (.t 34) none (some (.t 35)), none⟩
  (.fork ⟨(some 37), .app 3 1 8 (.t 33) (.t 36), none⟩
  (.fork ⟨(some 39), .bslice 3 1 [(.t 38)], none⟩
  (.fork ⟨(some 40), .app 3 1 8 (.t 37) (.t 39), none⟩
  (.fork ⟨(some 43), .slc 1 (.t 41) (some (.t 42)) none, none⟩
  (.fork ⟨(some 44), .app 3 1 8 (.t 40) (.t 43), none⟩
  (.first ⟨(some 4), .mv (.t 44), none⟩
  .done)
  .nope)
  .nope)
  (.fork ⟨(some 43), .slc 1 (.t 41) (some (.t 42)) none, none⟩
  (.fork ⟨(some 40), .app 3 1 8 (.t 37) (.t 39), none⟩
  (.fork ⟨(some 44), .app 3 1 8 (.t 40) (.t 43), none⟩
  (.first ⟨(some 4), .mv (.t 44), none⟩
  .done)
  .nope)
  .nope)
  .nope))
  (.fork ⟨(some 43), .slc 1 (.t 41) (some (.t 42)) none, none⟩
  (.fork ⟨(some 39), .bslice 3 1 [(.t 38)], none⟩
  (.fork ⟨(some 40), .app 3 1 8 (.t 37) (.t 39), none⟩
  (.fork ⟨(some 44), .app 3 1 8 (.t 40) (.t 43), none⟩
  (.first ⟨(some 4), .mv (.t 44), none⟩
  .done)
  .nope)
  .nope)
  .nope)
  .nope))
  (.fork ⟨(some 39), .bslice 3 1 [(.t 38)], none⟩
  (.fork ⟨(some 37), .app 3 1 8 (.t 33) (.t 36), none⟩
  (.fork ⟨(some 40), .app 3 1 8 (.t 37) (.t 39), none⟩
  (.fork ⟨(some 43), .slc 1 (.t 41) (some (.t 42)) none, none⟩
  (.fork ⟨(some 44), .app 3 1 8 (.t 40) (.t 43), none⟩
  (.first ⟨(some 4), .mv (.t 44), none⟩
  .done)
  .nope)
  .nope)
  (.fork ⟨(some 43), .slc 1 (.t 41) (some (.t 42)) none, none⟩
  (.fork ⟨(some 40), .app 3 1 8 (.t 37) (.t 39), none⟩
  (.fork ⟨(some 44), .app 3 1 8 (.t 40) (.t 43), none⟩
  (.first ⟨(some 4), .mv (.t 44), none⟩
  .done)
  .nope)
  .nope)
  .nope))
  (.fork ⟨(some 43), .slc 1 (.t 41) (some (.t 42)) none, none⟩
  (.fork ⟨(some 37), .app 3 1 8 (.t 33) (.t 36), none⟩
  (.fork ⟨(some 40), .app 3 1 8 (.t 37) (.t 39), none⟩
  (.fork ⟨(some 44), .app 3 1 8 (.t 40) (.t 43), none⟩
  (.first ⟨(some 4), .mv (.t 44), none⟩
  .done)
  .nope)
  .nope)
  .nope)
  .nope))
  (.fork ⟨(some 43), .slc 1 (.t 41) (some (.t 42)) none, none⟩
  (.fork ⟨(some 37), .app 3 1 8 (.t 33) (.t 36), none⟩
  (.fork ⟨(some 39), .bslice 3 1 [(.t 38)], none⟩
  (.fork ⟨(some 40), .app 3 1 8 (.t 37) (.t 39), none⟩
  (.fork ⟨(some 44), .app 3 1 8 (.t 40) (.t 43), none⟩
  (.first ⟨(some 4), .mv (.t 44), none⟩
  .done)
  .nope)
  .nope)
  .nope)
  (.fork ⟨(some 39), .bslice 3 1 [(.t 38)], none⟩
  (.fork ⟨(some 37), .app 3 1 8 (.t 33) (.t 36), none⟩
  (.fork ⟨(some 40), .app 3 1 8 (.t 37) (.t 39), none⟩
  (.fork ⟨(some 44), .app 3 1 8 (.t 40) (.t 43), none⟩
  (.first ⟨(some 4), .mv (.t 44), none⟩
  .done)
  .nope)
  .nope)
  .nope)
  .nope))
  .nope)))
  (.fork ⟨(some 39), .bslice 3 1 [(.t 38)], none⟩
  (.fork ⟨(some 36), .slc 1 (.t 34) none (some (.t 35)), none⟩
  (.fork ⟨(some 37), .app 3 1 8 (.t 33) (.t 36), none⟩
  (.fork ⟨(some 40), .app 3 1 8 (.t 37) (.t 39), none⟩
  (.fork ⟨(some 43), .slc 1 (.t 41) (some (.t 42)) none, none⟩
  (.fork ⟨(some 44), .app 3 1 8 (.t 40) (.t 43), none⟩
  (.first ⟨(some 4), .mv (.t 44), none⟩
  .done)
  .nope)
  .nope)
  (.fork ⟨(some 43), .slc 1 (.t 41) (some (.t 42)) none, none⟩
  (.fork ⟨(some 40), .app 3 1 8 (.t 37) (.t 39), none⟩
  (.fork ⟨(some 44), .app 3 1 8 (.t 40) (.t 43), none⟩
  (.first ⟨(some 4), .mv (.t 44), none⟩
  .done)
  .nope)
  .nope)
  .nope))
  (.fork ⟨(some 43), .slc 1 (.t 41) (some (.t 42)) none, none⟩
  (.fork ⟨(some 37), .app 3 1 8 (.t 33) (.t 36), none⟩
  (.fork ⟨(some 40), .app 3 1 8 (.t 37) (.t 39), none⟩
  (.fork ⟨(some 44), .app 3 1 8 (.t 40) (.t 43), none⟩
  (.first ⟨(some 4), .mv (.t 44), none⟩
  .done)
  .nope)
  .nope)
  .nope)
  .nope))
  (.fork ⟨(some 43), .slc 1 (.t 41) (some (.t 42)) none, none⟩
  (.fork ⟨(some 36), .slc 1 (.t 34) none (some (.t 35)), none⟩
  (.fork ⟨(some 37), .app 3 1 8 (.t 33) (.t 36), none⟩
  (.fork ⟨(some 40), .app 3 1 8 (.t 37) (.t 39), none⟩
  (.fork ⟨(some 44), .app 3 1 8 (.t 40) (.t 43), none⟩
  (.first ⟨(some 4), .mv (.t 44), none⟩
  .done)
  .nope)
  .nope)
  .nope)
  .nope)
  .nope))
  (.fork ⟨(some 43), .slc 1 (.t 41) (some (.t 42)) none, none⟩
  (.fork ⟨(some 36), .slc 1 (.t 34) none (some (.t 35)), none⟩
  (.fork ⟨(some 37), .app 3 1 8 (.t 33) (.t 36), none⟩
  (.fork ⟨(some 39), .bslice 3 1 [(.t 38)], none⟩
  (.fork ⟨(some 40), .app 3 1 8 (.t 37) (.t 39), none⟩
  (.fork ⟨(some 44), .app 3 1 8 (.t 40) (.t 43), none⟩
  (.first ⟨(some 4), .mv (.t 44), none⟩
  .done)
  .nope)
  .nope)
  .nope)
  (.fork ⟨(some 39), .bslice 3 1 [(.t 38)], none⟩
  (.fork ⟨(some 37), .app 3 1 8 (.t 33) (.t 36), none⟩
  (.fork ⟨(some 40), .app 3 1 8 (.t 37) (.t 39), none⟩
  (.fork ⟨(some 44), .app 3 1 8 (.t 40) (.t 43), none⟩
  (.first ⟨(some 4), .mv (.t 44), none⟩
  .done)
  .nope)
  .nope)
  .nope)
  .nope))
  (.fork ⟨(some 39), .bslice 3 1 [(.t 38)], none⟩
  (.fork ⟨(some 36), .slc 1 (.t 34) none (some (.t 35)), none⟩
  (.fork ⟨(some 37), .app 3 1 8 (.t 33) (.t 36), none⟩
  (.fork ⟨(some 40), .app 3 1 8 (.t 37) (.t 39), none⟩
  (.fork ⟨(some 44), .app 3 1 8 (.t 40) (.t 43), none⟩
  (.first ⟨(some 4), .mv (.t 44), none⟩
  .done)
  .nope)
  .nope)
  .nope)
  .nope)
  .nope))
  .nope)))
  (.fork ⟨(some 36), .slc 1 (.t 34) none (some (.t 35)), none⟩
  (.fork ⟨(some 33), .bslice 3 1 [], none⟩
  (.fork ⟨(some 37), .app 3 1 8 (.t 33) (.t 36), none⟩
  (.fork ⟨(some 39), .bslice 3 1 [(.t 38)], none⟩
  (.fork ⟨(some 40), .app 3 1 8 (.t 37) (.t 39), none⟩
  (.fork ⟨(some 43), .slc 1 (.t 41) (some (.t 42)) none, none⟩
  (.fork ⟨(some 44), .app 3 1 8 (.t 40) (.t 43), none⟩
  (.first ⟨(some 4), .mv (.t 44), none⟩
  .done)
  .nope)
  .nope)
  (.fork ⟨(some 43), .slc 1 (.t 41) (some (.t 42)) none, none⟩
  (.fork ⟨(some 40), .app 3 1 8 (.t 37) (.t 39), none⟩
  (.fork ⟨(some 44), .app 3 1 8 (.t 40) (.t 43), none⟩
  (.first ⟨(some 4), .mv (.t 44), none⟩
  .done)
  .nope)
  .nope)
  .nope))
  (.fork ⟨(some 43), .slc 1 (.t 41) (some (.t 42)) none, none⟩
  (.fork ⟨(some 39), .bslice 3 1 [(.t 38)], none⟩
  (.fork ⟨(some 40), .app 3 1 8 (.t 37) (.t 39), none⟩
  (.fork ⟨(some 44), .app 3 1 8 (.t 40) (.t 43), none⟩
  (.first ⟨(some 4), .mv (.t 44), none⟩
  .done)
  .nope)
  .nope)
  .nope)
  .nope))
  (.fork ⟨(some 39), .bslice 3 1 [(.t 38)], none⟩
  (.fork ⟨(some 37), .app 3 1 8 (.t 33) (.t 36), none⟩
  (.fork ⟨(some 40), .app 3 1 8 (.t 37) (.t 39), none⟩
  (.fork ⟨(some 43), .slc 1 (.t 41) (some (.t 42)) none, none⟩
  (.fork ⟨(some 44), .app 3 1 8 (.t 40) (.t 43), none⟩
  (.first ⟨(some 4), .mv (.t 44), none⟩
  .done)
  .nope)
  .nope)
  (.fork ⟨(some 43), .slc 1 (.t 41) (some (.t 42)) none, none⟩
  (.fork ⟨(some 40), .app 3 1 8 (.t 37) (.t 39), none⟩
  (.fork ⟨(some 44), .app 3 1 8 (.t 40) (.t 43), none⟩
  (.first ⟨(some 4), .mv (.t 44), none⟩
  .done)
  .nope)
  .nope)
  .nope))
  (.fork ⟨(some 43), .slc 1 (.t 41) (some (.t 42)) none, none⟩
  (.fork ⟨(some 37), .app 3 1 8 (.t 33) (.t 36), none⟩
  (.fork ⟨(some 40), .app 3 1 8 (.t 37) (.t 39), none⟩
  (.fork ⟨(some 44), .app 3 1 8 (.t 40) (.t 43), none⟩
  (.first ⟨(some 4), .mv (.t 44), none⟩
  .done)
  .nope)
  .nope)
  .nope)
  .nope))
  (.fork ⟨(some 43), .slc 1 (.t 41) (some (.t 42)) none, none⟩
  (.fork ⟨(some 37), .app 3 1 8 (.t 33) (.t 36), none⟩
  (.fork ⟨(some 39), .bslice 3 1 [(.t 38)], none⟩
  (.fork ⟨(some 40), .app 3 1 8 (.t 37) (.t 39), none⟩
  (.fork ⟨(some 44), .app 3 1 8 (.t 40) (.t 43), none⟩
  (.first ⟨(some 4), .mv (.t 44), none⟩
  .done)
  .nope)
  .nope)
  .nope)
  (.fork ⟨(some 39), .bslice 3 1 [(.t 38)], none⟩
  (.fork ⟨(some 37), .app 3 1 8 (.t 33) (.t 36), none⟩
  (.fork ⟨(some 40), .app 3 1 8 (.t 37) (.t 39), none⟩
  (.fork ⟨(some 44), .app 3 1 8 (.t 40) (.t 43), none⟩
  (.first ⟨(some 4), .mv (.t 44), none⟩
  .done)
  .nope)
  .nope)
  .nope)
  .nope))
  .nope)))
  (.fork ⟨(some 39), .bslice 3 1 [(.t 38)], none⟩
  (.fork ⟨(some 33), .bslice 3 1 [], none⟩
  (.fork ⟨(some 37), .app 3 1 8 (.t 33) (.t 36), none⟩
  (.fork ⟨(some 40), .app 3 1 8 (.t 37) (.t 39), none⟩
  (.fork ⟨(some 43), .slc 1 (.t 41) (some (.t 42)) none, none⟩
  (.fork ⟨(some 44), .app 3 1 8 (.t 40) (.t 43), none⟩
  (.first ⟨(some 4), .mv (.t 44), none⟩
  .done)
  .nope)
  .nope)
  (.fork ⟨(some 43), .slc 1 (.t 41) (some (.t 42)) none, none⟩
  (.fork ⟨(some 40), .app 3 1 8 (.t 37) (.t 39), none⟩
  (.fork ⟨(some 44), .app 3 1 8 (.t 40) (.t 43), none⟩
  (.first ⟨(some 4), .mv (.t 44), none⟩
  .done)
  .nope)
  .nope)
  .nope))
  (.fork ⟨(some 43), .slc 1 (.t 41) (some (.t 42)) none, none⟩
  (.fork ⟨(some 37), .app 3 1 8 (.t 33) (.t 36), none⟩
  (.fork ⟨(some 40), .app 3 1 8 (.t 37) (.t 39), none⟩
  (.fork ⟨(some 44), .app 3 1 8 (.t 40) (.t 43), none⟩
  (.first ⟨(some 4), .mv (.t 44), none⟩
  .done)
  .nope)
  .nope)
  .nope)
  .nope))
  (.fork ⟨(some 43), .slc 1 (.t 41) (some (.t 42)) none, none⟩
  (.fork ⟨(some 33), .bslice 3 1 [], none⟩
  (.fork ⟨(some 37), .app 3 1 8 (.t 33) (.t 36), none⟩
  (.fork ⟨(some 40), .app 3 1 8 (.t 37) (.t 39), none⟩
  (.fork ⟨(some 44), .app 3 1 8 (.t 40) (.t 43), none⟩
  (.first ⟨(some 4), .mv (.t 44), none⟩
  .done)
  .nope)
  .nope)
  .nope)
  .nope)
  .nope))
  (.fork ⟨(some 43), .slc 1 (.t 41) (some (.t 42)) none, none⟩
  (.fork ⟨(some 33), .bslice 3 1 [], none⟩
  (.fork ⟨(some 37), .app 3 1 8 (.t 33) (.t 36), none⟩
  (.fork ⟨(some 39), .bslice 3 1 [(.t 38)], none⟩
  (.fork ⟨(some 40), .app 3 1 8 (.t 37) (.t 39), none⟩
  (.fork ⟨(some 44), .app 3 1 8 (.t 40) (.t 43), none⟩
  (.first ⟨(some 4), .mv (.t 44), none⟩
  .done)
  .nope)
  .nope)
  .nope)
  (.fork ⟨(some 39), .bslice 3 1 [(.t 38)], none⟩
  (.fork ⟨(some 37), .app 3 1 8 (.t 33) (.t 36), none⟩
  (.fork ⟨(some 40), .app 3 1 8 (.t 37) (.t 39), none⟩
  (.fork ⟨(some 44), .app 3 1 8 (.t 40) (.t 43), none⟩
  (.first ⟨(some 4), .mv (.t 44), none⟩
  .done)
  .nope)
  .nope)
  .nope)
  .nope))
  (.fork ⟨(some 39), .bslice 3 1 [(.t 38)], none⟩
  (.fork ⟨(some 33), .bslice 3 1 [], none⟩
  (.fork ⟨(some 37), .app 3 1 8 (.t 33) (.t 36), none⟩
  (.fork ⟨(some 40), .app 3 1 8 (.t 37) (.t 39), none⟩
  (.fork ⟨(some 44), .app 3 1 8 (.t 40) (.t 43), none⟩
  (.first ⟨(some 4), .mv (.t 44), none⟩
  .done)
  .nope)
  .nope)
  .nope)
  .nope)
  .nope))
  .nope)))
  (.fork ⟨(some 39), .bslice 3 1 [(.t 38)], none⟩
  (.fork ⟨(some 33), .bslice 3 1 [], none⟩
  (.fork ⟨(some 36), .slc 1 (.t 34) none (some (.t 35)), none⟩
  (.fork ⟨(some 37), .app 3 1 8 (.t 33) (.t 36), none⟩
  (.fork ⟨(some 40), .app 3 1 8 (.t 37) (.t 39), none⟩
  (.fork ⟨(some 43), .slc 1 (.t 41) (some (.t 42)) none, none⟩
  (.fork ⟨(some 44), .app 3 1 8 (.t 40) (.t 43), none⟩
  (.first ⟨(some 4), .mv (.t 44), none⟩
  .done)
  .nope)
  .nope)
  (.fork ⟨(some 43), .slc 1 (.t 41) (some (.t 42)) none, none⟩
  (.fork ⟨(some 40), .app 3 1 8 (.t 37) (.t 39), none⟩
  (.fork ⟨(some 44), .app 3 1 8 (.t 40) (.t 43), none⟩
  (.first ⟨(some 4), .mv (.t 44), none⟩
  .done)
  .nope)
  .nope)
  .nope))
  (.fork ⟨(some 43), .slc 1 (.t 41) (some (.t 42)) none, none⟩
  (.fork ⟨(some 37), .app 3 1 8 (.t 33) (.t 36), none⟩
  (.fork ⟨(some 40), .app 3 1 8 (.t 37) (.t 39), none⟩
  (.fork ⟨(some 44), .app 3 1 8 (.t 40) (.t 43), none⟩
  (.first ⟨(some 4), .mv (.t 44), none⟩
  .done)
  .nope)
  .nope)
  .nope)
  .nope))
  (.fork ⟨(some 43), .slc 1 (.t 41) (some (.t 42)) none, none⟩
  (.fork ⟨(some 36), .slc 1 (.t 34) none (some (.t 35)), none⟩
  (.fork ⟨(some 37), .app 3 1 8 (.t 33) (.t 36), none⟩
  (.fork ⟨(some 40), .app 3 1 8 (.t 37) (.t 39), none⟩
  (.fork ⟨(some 44), .app 3 1 8 (.t 40) (.t 43), none⟩
  (.first ⟨(some 4), .mv (.t 44), none⟩
  .done)
  .nope)
  .nope)
  .nope)
  .nope)
  .nope))
  (.fork ⟨(some 36), .slc 1 (.t 34) none (some (.t 35)), none⟩
  (.fork ⟨(some 33), .bslice 3 1 [], none⟩
  (.fork ⟨(some 37), .app 3 1 8 (.t 33) (.t 36), none⟩
  (.fork ⟨(some 40), .app 3 1 8 (.t 37) (.t 39), none⟩
  (.fork ⟨(some 43), .slc 1 (.t 41) (some (.t 42)) none, none⟩
  (.fork ⟨(some 44), .app 3 1 8 (.t 40) (.t 43), none⟩
  (.first ⟨(some 4), .mv (.t 44), none⟩
  .done)
  .nope)
  .nope)
  (.fork ⟨(some 43), .slc 1 (.t 41) (some (.t 42)) none, none⟩
  (.fork ⟨(some 40), .app 3 1 8 (.t 37) (.t 39), none⟩
  (.fork ⟨(some 44), .app 3 1 8 (.t 40) (.t 43), none⟩
  (.first ⟨(some 4), .mv (.t 44), none⟩
  .done)
  .nope)
  .nope)
  .nope))
  (.fork ⟨(some 43), .slc 1 (.t 41) (some (.t 42)) none, none⟩
  (.fork ⟨(some 37), .app 3 1 8 (.t 33) (.t 36), none⟩
  (.fork ⟨(some 40), .app 3 1 8 (.t 37) (.t 39), none⟩
  (.fork ⟨(some 44), .app 3 1 8 (.t 40) (.t 43), none⟩
  (.first ⟨(some 4), .mv (.t 44), none⟩
  .done)
  .nope)
  .nope)
  .nope)
  .nope))
  (.fork ⟨(some 43), .slc 1 (.t 41) (some (.t 42)) none, none⟩
  (.fork ⟨(some 33), .bslice 3 1 [], none⟩
  (.fork ⟨(some 37), .app 3 1 8 (.t 33) (.t 36), none⟩
  (.fork ⟨(some 40), .app 3 1 8 (.t 37) (.t 39), none⟩
  (.fork ⟨(some 44), .app 3 1 8 (.t 40) (.t 43), none⟩
  (.first ⟨(some 4), .mv (.t 44), none⟩
  .done)
  .nope)
  .nope)
  .nope)
  .nope)
  .nope))
  (.fork ⟨(some 43), .slc 1 (.t 41) (some (.t 42)) none, none⟩
  (.fork ⟨(some 33), .bslice 3 1 [], none⟩
  (.fork ⟨(some 36), .slc 1 (.t 34) none (some (.t 35)), none⟩
  (.fork ⟨(some 37), .app 3 1 8 (.t 33) (.t 36), none⟩
  (.fork ⟨(some 40), .app 3 1 8 (.t 37) (.t 39), none⟩
  (.fork ⟨(some 44), .app 3 1 8 (.t 40) (.t 43), none⟩
  (.first ⟨(some 4), .mv (.t 44), none⟩
  .done)
  .nope)
  .nope)
  .nope)
  .nope)
  (.fork ⟨(some 36), .slc 1 (.t 34) none (some (.t 35)), none⟩
  (.fork ⟨(some 33), .bslice 3 1 [], none⟩
  (.fork ⟨(some 37), .app 3 1 8 (.t 33) (.t 36), none⟩
  (.fork ⟨(some 40), .app 3 1 8 (.t 37) (.t 39), none⟩
  (.fork ⟨(some 44), .app 3 1 8 (.t 40) (.t 43), none⟩
  (.first ⟨(some 4), .mv (.t 44), none⟩
  .done)
  .nope)
  .nope)
  .nope)
  .nope)
  .nope))
  .nope)))
  (.fork ⟨(some 43), .slc 1 (.t 41) (some (.t 42)) none, none⟩
  (.fork ⟨(some 33), .bslice 3 1 [], none⟩
  (.fork ⟨(some 36), .slc 1 (.t 34) none (some (.t 35)), none⟩
  (.fork ⟨(some 37), .app 3 1 8 (.t 33) (.t 36), none⟩
  (.fork ⟨(some 39), .bslice 3 1 [(.t 38)], none⟩
  (.fork ⟨(some 40), .app 3 1 8 (.t 37) (.t 39), none⟩
  (.fork ⟨(some 44), .app 3 1 8 (.t 40) (.t 43), none⟩
  (.first ⟨(some 4), .mv (.t 44), none⟩
  .done)
  .nope)
  .nope)
  .nope)
  (.fork ⟨(some 39), .bslice 3 1 [(.t 38)], none⟩
  (.fork ⟨(some 37), .app 3 1 8 (.t 33) (.t 36), none⟩
  (.fork ⟨(some 40), .app 3 1 8 (.t 37) (.t 39), none⟩
  (.fork ⟨(some 44), .app 3 1 8 (.t 40) (.t 43), none⟩
  (.first ⟨(some 4), .mv (.t 44), none⟩
  .done)
  .nope)
  .nope)
  .nope)
  .nope))
  (.fork ⟨(some 39), .bslice 3 1 [(.t 38)], none⟩
  (.fork ⟨(some 36), .slc 1 (.t 34) none (some (.t 35)), none⟩
  (.fork ⟨(some 37), .app 3 1 8 (.t 33) (.t 36), none⟩
  (.fork ⟨(some 40), .app 3 1 8 (.t 37) (.t 39), none⟩
  (.fork ⟨(some 44), .app 3 1 8 (.t 40) (.t 43), none⟩
  (.first ⟨(some 4), .mv (.t 44), none⟩
  .done)
  .nope)
  .nope)
  .nope)
  .nope)
  .nope))
  (.fork ⟨(some 36), .slc 1 (.t 34) none (some (.t 35)), none⟩
  (.fork ⟨(some 33), .bslice 3 1 [], none⟩
  (.fork ⟨(some 37), .app 3 1 8 (.t 33) (.t 36), none⟩
  (.fork ⟨(some 39), .bslice 3 1 [(.t 38)], none⟩
  (.fork ⟨(some 40), .app 3 1 8 (.t 37) (.t 39), none⟩
  (.fork ⟨(some 44), .app 3 1 8 (.t 40) (.t 43), none⟩
  (.first ⟨(some 4), .mv (.t 44), none⟩
  .done)
  .nope)
  .nope)
  .nope)
  (.fork ⟨(some 39), .bslice 3 1 [(.t 38)], none⟩
  (.fork ⟨(some 37), .app 3 1 8 (.t 33) (.t 36), none⟩
  (.fork ⟨(some 40), .app 3 1 8 (.t 37) (.t 39), none⟩
  (.fork ⟨(some 44), .app 3 1 8 (.t 40) (.t 43), none⟩
  (.first ⟨(some 4), .mv (.t 44), none⟩
  .done)
  .nope)
  .nope)
  .nope)
  .nope))
  (.fork ⟨(some 39), .bslice 3 1 [(.t 38)], none⟩
  (.fork ⟨(some 33), .bslice 3 1 [], none⟩
  (.fork ⟨(some 37), .app 3 1 8 (.t 33) (.t 36), none⟩
  (.fork ⟨(some 40), .app 3 1 8 (.t 37) (.t 39), none⟩
  (.fork ⟨(some 44), .app 3 1 8 (.t 40) (.t 43), none⟩
  (.first ⟨(some 4), .mv (.t 44), none⟩
  .done)
  .nope)
  .nope)
  .nope)
  .nope)
  .nope))
  (.fork ⟨(some 39), .bslice 3 1 [(.t 38)], none⟩
  (.fork ⟨(some 33), .bslice 3 1 [], none⟩
  (.fork ⟨(some 36), .slc 1 (.t 34) none (some (.t 35)), none⟩
  (.fork ⟨(some 37), .app 3 1 8 (.t 33) (.t 36), none⟩
  (.fork ⟨(some 40), .app 3 1 8 (.t 37) (.t 39), none⟩
  (.fork ⟨(some 44), .app 3 1 8 (.t 40) (.t 43), none⟩
  (.first ⟨(some 4), .mv (.t 44), none⟩
  .done)
  .nope)
  .nope)
  .nope)
  .nope)
  (.fork ⟨(some 36), .slc 1 (.t 34) none (some (.t 35)), none⟩
  (.fork ⟨(some 33), .bslice 3 1 [], none⟩
  (.fork ⟨(some 37), .app 3 1 8 (.t 33) (.t 36), none⟩
  (.fork ⟨(some 40), .app 3 1 8 (.t 37) (.t 39), none⟩
  (.fork ⟨(some 44), .app 3 1 8 (.t 40) (.t 43), none⟩
  (.first ⟨(some 4), .mv (.t 44), none⟩
  .done)
  .nope)
  .nope)
  .nope)
  .nope)
  .nope))
  .nope)))
  .nope)))))))))
abbrev c46_17 : AC := .seq c46_16 .ret
abbrev c46_18 : AC := .seq c46_15 c46_17
abbrev c46_19 : AC := .seq c46_10 c46_18
abbrev c46_20 : AC := .seq c46_2 c46_19
abbrev c46_21 : AC := .seq c46_1 c46_20
abbrev c46 : AC := c46_21
theorem code46 : fnCode Try.prog 46 = some (c46, [4], 45) := by kernel_rfl
/- coinage/coinageref13.insert -/
abbrev c47_1 : AC := .reg [⟨(some 3), .box 47 (some 3) (.t 1), none⟩,
  ⟨(some 4), .mv (.k (.c .nil)), none⟩] false
abbrev c47_2 : AC := .reg [⟨(some 5), .mv (.k (.I 0)), none⟩] false
abbrev c47_3 : AC := .regD [(⟨(some 6), .mv (.t 5), none⟩, [5]),
  (⟨(some 7), .mv (.t 0), none⟩, [0]),
  (⟨(some 8), .len (.t 7), none⟩, [7]),
  (⟨(some 9), .bin .lss (.t 6) (.t 8), none⟩, [6, 8]),
  (⟨(some 10), .mv (.t 9), none⟩, [9]),
  (⟨(some 11), .mv (.t 0), (some (10, true))⟩, [0, 10]),
  (⟨(some 12), .mv (.t 5), (some (10, true))⟩, [5, 10]),
  (⟨(some 13), .iad 3 (.t 11) (.t 12), (some (10, true))⟩, [11, 12, 10]),
  (⟨(some 14), .fad 0 (.t 13), (some (10, true))⟩, [13, 10]),
  (⟨(some 15), .ld none (.t 14), (some (10, true))⟩, [14, 10]),
  (⟨(some 16), .fad 0 (.t 3), (some (10, true))⟩, [3, 10]),
  (⟨(some 17), .ld none (.t 16), (some (10, true))⟩, [16, 10]),
  (⟨(some 18), .bin .lss (.t 15) (.t 17), (some (10, true))⟩, [15, 17, 10]),
  (⟨(some 19), .pick (.t 10) (.t 18) (.k (.B false)), none⟩, [10, 18])]
abbrev c47_4 : AC := .cond (.t 19) .skip (.exit 0)
abbrev c47_5 : AC := .seq c47_3 c47_4
abbrev c47_6 : AC := .reg [⟨(some 20), .mv (.t 5), none⟩,
  ⟨(some 21), .bin .add (.t 20) (.k (.I 1)), none⟩,
  ⟨(some 5), .mv (.t 21), none⟩] false
abbrev c47_7 : AC := .block 1 c47_6
abbrev c47_8 : AC := .seq c47_5 c47_7
abbrev c47_9 : AC := .loop c47_8
abbrev c47_10 : AC := .block 0 c47_9
def c47_11L : List AP := [⟨(some 22), .bslice 47 3 [], none⟩,
  ⟨(some 23), .mv (.t 0), none⟩,
  ⟨(some 24), .mv (.t 5), none⟩,
  ⟨(some 25), .slc 3 (.t 23) none (some (.t 24)), none⟩,
  ⟨(some 26), .app 47 3 24 (.t 22) (.t 25), none⟩,
  ⟨(some 27), .ld (some 3) (.t 3), none⟩,
  ⟨(some 28), .bslice 47 3 [(.t 27)], none⟩,
  ⟨(some 29), .app 47 3 24 (.t 26) (.t 28), none⟩,
  ⟨(some 30), .mv (.t 0), none⟩,
  ⟨(some 31), .mv (.t 5), none⟩,
  ⟨(some 32), .slc 3 (.t 30) (some (.t 31)) none, none⟩,
  ⟨(some 33), .app 47 3 24 (.t 29) (.t 32), none⟩,
  ⟨(some 4), .mv (.t 33), none⟩]
abbrev c47_11 : AC := .regG c47_11L [0, 0, 0, 6, 9, 0, 32, 80, 0, 0, 768, 1152, 4095] [0, 0, 0, 6, 9, 0, 32, 80, 0, 0, 768, 1152, 2048]
abbrev c47_12 : AC := .seq c47_11 .ret
abbrev c47_13 : AC := .seq c47_10 c47_12
abbrev c47_14 : AC := .seq c47_2 c47_13
abbrev c47_15 : AC := .seq c47_1 c47_14
abbrev c47 : AC := c47_15
theorem code47 : fnCode Try.prog 47 = some (c47, [4], 34) := by kernel_rfl
/- slices.Contains[[]int,int] -/
abbrev c48_1 : AC := .reg [⟨(some 4), .mv (.k (.B false)), none⟩] false
abbrev c48_2 : AC := .reg [⟨(some 5), .mv (.t 0), none⟩,
  ⟨(some 6), .mv (.t 1), none⟩,
  ⟨(some 7), .call 61 [(.t 5), (.t 6)], none⟩,
  ⟨(some 8), .bin .geq (.t 7) (.k (.I 0)), none⟩,
  ⟨(some 4), .mv (.t 8), none⟩] false
abbrev c48_3 : AC := .seq c48_2 .ret
abbrev c48_4 : AC := .seq c48_1 c48_3
abbrev c48 : AC := c48_4
theorem code48 : fnCode Try.prog 48 = some (c48, [4], 9) := by kernel_rfl
/- coinage/coinagebase.Links -/
abbrev c49_1 : AC := .reg [⟨(some 4), .mv (.k (.B false)), none⟩] false
abbrev c49_2 : AC := .reg [⟨(some 6), .mv (.t 0), none⟩,
  ⟨(some 7), .len (.t 6), none⟩,
  ⟨(some 8), .mv (.t 1), none⟩,
  ⟨(some 9), .len (.t 8), none⟩,
  ⟨(some 10), .bin .neq (.t 7) (.t 9), none⟩] false
abbrev c49_3 : AC := .reg [⟨(some 4), .mv (.k (.B false)), none⟩] false
abbrev c49_4 : AC := .seq c49_3 .ret
abbrev c49_5 : AC := .cond (.t 10) c49_4 .skip
abbrev c49_6 : AC := .seq c49_2 c49_5
abbrev c49_7 : AC := .reg [⟨(some 5), .mv (.k (.I 0)), none⟩] false
abbrev c49_8 : AC := .reg [⟨(some 11), .mv (.t 5), none⟩,
  ⟨(some 12), .mv (.t 0), none⟩,
  ⟨(some 13), .len (.t 12), none⟩,
  ⟨(some 14), .bin .lss (.t 11) (.t 13), none⟩] false
abbrev c49_9 : AC := .cond (.t 14) .skip (.exit 0)
abbrev c49_10 : AC := .seq c49_8 c49_9
abbrev c49_11 : AC := .regD [(⟨(some 17), .mv (.t 0), none⟩, [0]),
  (⟨(some 18), .mv (.t 5), none⟩, [5]),
  (⟨(some 19), .iad 3 (.t 17) (.t 18), none⟩, [17, 18]),
  (⟨(some 20), .ld (some 3) (.t 19), none⟩, [19]),
  (⟨(some 21), .mv (.t 1), none⟩, [1]),
  (⟨(some 22), .mv (.t 5), none⟩, [5]),
  (⟨(some 23), .iad 3 (.t 21) (.t 22), none⟩, [21, 22]),
  (⟨(some 24), .ld (some 3) (.t 23), none⟩, [23]),
  (⟨(some 25), .eqs true [false, false, false] (.t 20) (.t 24), none⟩, [20, 24])]
abbrev c49_12 : AC := .reg [⟨(some 4), .mv (.k (.B false)), none⟩] false
abbrev c49_13 : AC := .seq c49_12 .ret
abbrev c49_14 : AC := .cond (.t 25) c49_13 .skip
abbrev c49_15 : AC := .seq c49_11 c49_14
abbrev c49_16 : AC := .block 1 c49_15
abbrev c49_17 : AC := .reg [⟨(some 15), .mv (.t 5), none⟩,
  ⟨(some 16), .bin .add (.t 15) (.k (.I 1)), none⟩,
  ⟨(some 5), .mv (.t 16), none⟩] false
abbrev c49_18 : AC := .seq c49_16 c49_17
abbrev c49_19 : AC := .seq c49_10 c49_18
abbrev c49_20 : AC := .loop c49_19
abbrev c49_21 : AC := .block 0 c49_20
abbrev c49_22 : AC := .seq c49_7 c49_21
abbrev c49_23 : AC := .reg [⟨(some 4), .mv (.k (.B true)), none⟩] false
abbrev c49_24 : AC := .seq c49_23 .ret
abbrev c49_25 : AC := .seq c49_22 c49_24
abbrev c49_26 : AC := .seq c49_6 c49_25
abbrev c49_27 : AC := .seq c49_1 c49_26
abbrev c49 : AC := c49_27
theorem code49 : fnCode Try.prog 49 = some (c49, [4], 26) := by kernel_rfl
/- coinage/linkage.numbers -/
abbrev c50_1 : AC := .reg [⟨(some 2), .mv (.k (.B false)), none⟩] false
abbrev c50_2 : AC := .reg [⟨(some 5), .mv (.t 0), none⟩,
  ⟨(some 6), .len (.t 5), none⟩,
  ⟨(some 7), .mv (.k (.I 0)), none⟩] false
abbrev c50_3 : AC := .reg [⟨(some 8), .bin .lss (.t 7) (.t 6), none⟩] false
abbrev c50_4 : AC := .cond (.t 8) .skip (.exit 0)
abbrev c50_5 : AC := .reg [⟨(some 9), .mv (.t 7), none⟩,
  ⟨(some 10), .iad 1 (.t 5) (.t 7), none⟩,
  ⟨(some 11), .ld none (.t 10), none⟩,
  ⟨(some 3), .mv (.t 9), none⟩,
  ⟨(some 4), .mv (.t 11), none⟩] false
abbrev c50_6 : AC := .reg [⟨(some 12), .mv (.t 4), none⟩,
  ⟨(some 13), .bin .lss (.t 12) (.k (.I 1)), none⟩,
  ⟨(some 14), .mv (.t 13), none⟩,
  ⟨(some 15), .mv (.t 4), (some (14, false))⟩,
  ⟨(some 16), .bin .gtr (.t 15) (.k (.I 999)), (some (14, false))⟩,
  ⟨(some 17), .pick (.t 14) (.k (.B true)) (.t 16), none⟩,
  ⟨(some 18), .mv (.t 17), none⟩,
  ⟨(some 19), .mv (.t 3), (some (18, false))⟩,
  ⟨(some 20), .bin .gtr (.t 19) (.k (.I 0)), (some (18, false))⟩,
  ⟨(some 21), .mv (.t 20), (some (18, false))⟩,
  ⟨(some 22), .mv (.t 4), (some (21, true))⟩,
  ⟨(some 23), .mv (.t 0), (some (21, true))⟩,
  ⟨(some 24), .mv (.t 3), (some (21, true))⟩,
  ⟨(some 25), .bin .sub (.t 24) (.k (.I 1)), (some (21, true))⟩,
  ⟨(some 26), .iad 1 (.t 23) (.t 25), (some (21, true))⟩,
  ⟨(some 27), .ld none (.t 26), (some (21, true))⟩,
  ⟨(some 28), .bin .leq (.t 22) (.t 27), (some (21, true))⟩,
  ⟨(some 29), .pick (.t 21) (.t 28) (.k (.B false)), (some (18, false))⟩,
  ⟨(some 30), .pick (.t 18) (.k (.B true)) (.t 29), none⟩] false
abbrev c50_7 : AC := .reg [⟨(some 2), .mv (.k (.B false)), none⟩] false
abbrev c50_8 : AC := .seq c50_7 .ret
abbrev c50_9 : AC := .cond (.t 30) c50_8 .skip
abbrev c50_10 : AC := .seq c50_6 c50_9
abbrev c50_11 : AC := .seq c50_5 c50_10
abbrev c50_12 : AC := .block 1 c50_11
abbrev c50_13 : AC := .reg [⟨(some 31), .bin .add (.t 7) (.k (.I 1)), none⟩,
  ⟨(some 7), .mv (.t 31), none⟩] false
abbrev c50_14 : AC := .seq c50_12 c50_13
abbrev c50_15 : AC := .seq c50_4 c50_14
abbrev c50_16 : AC := .seq c50_3 c50_15
abbrev c50_17 : AC := .loop c50_16
abbrev c50_18 : AC := .block 0 c50_17
abbrev c50_19 : AC := .seq c50_2 c50_18
abbrev c50_20 : AC := .reg [⟨(some 32), .mv (.t 0), none⟩,
  ⟨(some 33), .len (.t 32), none⟩,
  ⟨(some 34), .bin .leq (.t 33) (.k (.I 32)), none⟩,
  ⟨(some 2), .mv (.t 34), none⟩] false
abbrev c50_21 : AC := .seq c50_20 .ret
abbrev c50_22 : AC := .seq c50_19 c50_21
abbrev c50_23 : AC := .seq c50_1 c50_22
abbrev c50 : AC := c50_23
theorem code50 : fnCode Try.prog 50 = some (c50, [2], 35) := by kernel_rfl
/- coinage/linkage.has -/
abbrev c51_1 : AC := .reg [⟨(some 4), .mv (.k (.B false)), none⟩] false
abbrev c51_2 : AC := .reg [⟨(some 8), .mv (.t 0), none⟩,
  ⟨(some 9), .mv (.t 1), none⟩,
  ⟨(some 10), .call 62 [(.t 8), (.t 9)], none⟩,
  ⟨(some 7), .mv (.t 10), none⟩,
  ⟨(some 11), .ext (.t 7) 0, none⟩,
  ⟨(some 12), .ext (.t 7) 1, none⟩,
  ⟨(some 5), .mv (.t 11), none⟩,
  ⟨(some 6), .mv (.t 12), none⟩] false
abbrev c51_3 : AC := .reg [⟨(some 13), .mv (.t 6), none⟩,
  ⟨(some 4), .mv (.t 13), none⟩] false
abbrev c51_4 : AC := .seq c51_3 .ret
abbrev c51_5 : AC := .seq c51_2 c51_4
abbrev c51_6 : AC := .seq c51_1 c51_5
abbrev c51 : AC := c51_6
theorem code51 : fnCode Try.prog 51 = some (c51, [4], 14) := by kernel_rfl
/- coinage/linkage.with -/
abbrev c52_1 : AC := .reg [⟨(some 2), .alloc 25 [(.c .nil), (.c .nil), (.c .nil)], none⟩] false
abbrev c52_2 : AC := .reg [⟨(some 6), .mv (.t 0), none⟩,
  ⟨(some 7), .build [(.c .nil), (.c .nil), (.c .nil)] [(2, 1, (.t 6))], none⟩,
  ⟨(some 3), .alloc 25 [(.c .nil), (.c .nil), (.c .nil)], none⟩,
  ⟨none, .st (some 3) (.t 3) (.t 7), none⟩] false
abbrev c52_3 : AC := .reg [⟨(some 8), .mv (.t 0), none⟩,
  ⟨(some 9), .len (.t 8), none⟩,
  ⟨(some 10), .mv (.k (.I 0)), none⟩] false
abbrev c52_4 : AC := .reg [⟨(some 11), .bin .lss (.t 10) (.t 9), none⟩] false
abbrev c52_5 : AC := .cond (.t 11) .skip (.exit 0)
abbrev c52_6 : AC := .reg [⟨(some 12), .iad 3 (.t 8) (.t 10), none⟩,
  ⟨(some 13), .ld (some 3) (.t 12), none⟩,
  ⟨(some 5), .alloc 47 [(.I 0), (.I 0), (.I 0)], none⟩,
  ⟨none, .st (some 3) (.t 5) (.t 13), none⟩] false
def c52_7L : List AP := [⟨(some 14), .fad 0 (.t 3), none⟩,
  ⟨(some 15), .ld none (.t 14), none⟩,
  ⟨(some 16), .fad 1 (.t 5), none⟩,
  ⟨(some 17), .ld none (.t 16), none⟩,
  ⟨(some 18), .bslice 3 1 [(.t 17)], none⟩,
  ⟨(some 19), .app 3 1 8 (.t 15) (.t 18), none⟩,
  ⟨(some 20), .fad 1 (.t 3), none⟩,
  ⟨(some 21), .ld none (.t 20), none⟩,
  ⟨(some 22), .fad 2 (.t 5), none⟩,
  ⟨(some 23), .ld none (.t 22), none⟩,
  ⟨(some 24), .bslice 3 1 [(.t 23)], none⟩,
  ⟨(some 25), .app 3 1 8 (.t 21) (.t 24), none⟩,
  ⟨(some 26), .fad 0 (.t 3), none⟩,
  ⟨none, .st none (.t 26) (.t 19), none⟩,
  ⟨(some 27), .fad 1 (.t 3), none⟩,
  ⟨none, .st none (.t 27) (.t 25), none⟩]
abbrev c52_7 : AC := .regG c52_7L [0, 1, 0, 4, 8, 18, 0, 64, 0, 256, 512, 1184, 255, 6399, 16383, 32767] [0, 1, 0, 4, 8, 18, 0, 64, 0, 256, 512, 1152, 0, 4128, 0, 18432]
abbrev c52_8 : AC := .seq c52_6 c52_7
abbrev c52_9 : AC := .block 1 c52_8
abbrev c52_10 : AC := .reg [⟨(some 28), .bin .add (.t 10) (.k (.I 1)), none⟩,
  ⟨(some 10), .mv (.t 28), none⟩] false
abbrev c52_11 : AC := .seq c52_9 c52_10
abbrev c52_12 : AC := .seq c52_5 c52_11
abbrev c52_13 : AC := .seq c52_4 c52_12
abbrev c52_14 : AC := .loop c52_13
abbrev c52_15 : AC := .block 0 c52_14
abbrev c52_16 : AC := .seq c52_3 c52_15
abbrev c52_17 : AC := .reg [⟨(some 29), .fad 0 (.t 3), none⟩,
  ⟨(some 30), .ld none (.t 29), none⟩,
  ⟨(some 31), .call 63 [(.t 30)], none⟩] false
abbrev c52_18 : AC := .reg [⟨(some 32), .fad 1 (.t 3), none⟩,
  ⟨(some 33), .ld none (.t 32), none⟩,
  ⟨(some 34), .call 63 [(.t 33)], none⟩] false
abbrev c52_19 : AC := .regX (.first ⟨(some 35), .fad 0 (.t 3), none⟩
  (.first ⟨(some 38), .fad 1 (.t 3), none⟩
  (.fork ⟨(some 36), .ld none (.t 35), none⟩
  (.fork ⟨(some 37), .call 64 [(.t 36)], none⟩
  (.fork ⟨(some 39), .ld none (.t 38), none⟩
  (.first ⟨(some 41), .fad 0 (.t 3), none⟩
  (.fork ⟨(some 40), .call 64 [(.t 39)], none⟩
  (.fork ⟨none, .st none (.t 41) (.t 37), none⟩
  (.first ⟨(some 42), .fad 1 (.t 3), none⟩
  (.fork ⟨none, .st none (.t 42) (.t 40), none⟩
  .done
  .nope))
  .nope)
  .nope))
  .nope)
  (.fork ⟨(some 39), .ld none (.t 38), none⟩
  (.fork ⟨(some 37), .call 64 [(.t 36)], none⟩
  (.first ⟨(some 41), .fad 0 (.t 3), none⟩
  (.fork ⟨(some 40), .call 64 [(.t 39)], none⟩
  (.fork ⟨none, .st none (.t 41) (.t 37), none⟩
  (.first ⟨(some 42), .fad 1 (.t 3), none⟩
  (.fork ⟨none, .st none (.t 42) (.t 40), none⟩
  .done
  .nope))
  .nope)
  .nope))
  .nope)
  .nope))
  (.fork ⟨(some 39), .ld none (.t 38), none⟩
  (.fork ⟨(some 36), .ld none (.t 35), none⟩
  (.fork ⟨(some 37), .call 64 [(.t 36)], none⟩
  (.first ⟨(some 41), .fad 0 (.t 3), none⟩
  (.fork ⟨(some 40), .call 64 [(.t 39)], none⟩
  (.fork ⟨none, .st none (.t 41) (.t 37), none⟩
  (.first ⟨(some 42), .fad 1 (.t 3), none⟩
  (.fork ⟨none, .st none (.t 42) (.t 40), none⟩
  .done
  .nope))
  .nope)
  .nope))
  .nope)
  .nope)
  .nope))))
abbrev c52_20 : AC := .reg [⟨(some 43), .ld (some 3) (.t 3), none⟩,
  ⟨none, .st (some 3) (.t 2) (.t 43), none⟩] false
abbrev c52_21 : AC := .seq c52_20 .ret
abbrev c52_22 : AC := .seq c52_19 c52_21
abbrev c52_23 : AC := .seq c52_18 c52_22
abbrev c52_24 : AC := .seq c52_17 c52_23
abbrev c52_25 : AC := .seq c52_16 c52_24
abbrev c52_26 : AC := .seq c52_2 c52_25
abbrev c52_27 : AC := .seq c52_1 c52_26
abbrev c52 : AC := c52_27
theorem code52 : fnCode Try.prog 52 = some (c52, [5000002], 44) := by kernel_rfl
/- coinage/component.in -/
abbrev c56_1 : AC := .reg [⟨(some 2), .box 25 (some 3) (.t 0), none⟩,
  ⟨(some 3), .box 27 (some 2) (.t 1), none⟩,
  ⟨(some 4), .mv (.k (.B false)), none⟩] false
abbrev c56_2 : AC := .reg [⟨(some 8), .ld (some 3) (.t 2), none⟩,
  ⟨(some 9), .call 41 [(.t 8)], none⟩,
  ⟨(some 7), .mv (.t 9), none⟩,
  ⟨(some 10), .ext (.t 7) 0, none⟩,
  ⟨(some 11), .ext (.t 7) 1, none⟩,
  ⟨(some 5), .mv (.t 10), none⟩,
  ⟨(some 6), .mv (.t 11), none⟩] false
abbrev c56_3 : AC := .reg [⟨(some 12), .mv (.t 5), none⟩,
  ⟨(some 13), .ld (some 2) (.t 3), none⟩,
  ⟨(some 14), .call 66 [(.t 12), (.t 13)], none⟩,
  ⟨(some 4), .mv (.t 14), none⟩] false
abbrev c56_4 : AC := .seq c56_3 .ret
abbrev c56_5 : AC := .seq c56_2 c56_4
abbrev c56_6 : AC := .seq c56_1 c56_5
abbrev c56 : AC := c56_6
theorem code56 : fnCode Try.prog 56 = some (c56, [4], 15) := by kernel_rfl
/- coinage/component.ends -/
abbrev c57_1 : AC := .reg [⟨(some 1), .box 47 (some 3) (.t 0), none⟩,
  ⟨(some 2), .alloc 27 [(.I 0), (.I 0)], none⟩,
  ⟨(some 3), .alloc 27 [(.I 0), (.I 0)], none⟩] false
abbrev c57_2 : AC := .regX (.first ⟨(some 4), .fad 1 (.t 1), none⟩
  (.first ⟨(some 7), .fad 2 (.t 1), none⟩
  (.fork ⟨(some 5), .ld none (.t 4), none⟩
  (.first ⟨(some 6), .build [(.I 0), (.I 0)] [(0, 1, (.k (.I 0))), (1, 1, (.t 5))], none⟩
  (.fork ⟨(some 8), .ld none (.t 7), none⟩
  (.first ⟨(some 9), .build [(.I 0), (.I 0)] [(0, 1, (.k (.I 1))), (1, 1, (.t 8))], none⟩
  (.fork ⟨none, .st (some 2) (.t 2) (.t 6), none⟩
  (.fork ⟨none, .st (some 2) (.t 3) (.t 9), none⟩
  .done
  .nope)
  .nope))
  (.fork ⟨none, .st (some 2) (.t 2) (.t 6), none⟩
  (.fork ⟨(some 8), .ld none (.t 7), none⟩
  (.first ⟨(some 9), .build [(.I 0), (.I 0)] [(0, 1, (.k (.I 1))), (1, 1, (.t 8))], none⟩
  (.fork ⟨none, .st (some 2) (.t 3) (.t 9), none⟩
  .done
  .nope))
  .nope)
  .nope)))
  (.fork ⟨(some 8), .ld none (.t 7), none⟩
  (.first ⟨(some 9), .build [(.I 0), (.I 0)] [(0, 1, (.k (.I 1))), (1, 1, (.t 8))], none⟩
  (.fork ⟨(some 5), .ld none (.t 4), none⟩
  (.first ⟨(some 6), .build [(.I 0), (.I 0)] [(0, 1, (.k (.I 0))), (1, 1, (.t 5))], none⟩
  (.fork ⟨none, .st (some 2) (.t 2) (.t 6), none⟩
  (.fork ⟨none, .st (some 2) (.t 3) (.t 9), none⟩
  .done
  .nope)
  .nope))
  .nope))
  .nope))))
abbrev c57_3 : AC := .seq c57_2 .ret
abbrev c57_4 : AC := .seq c57_1 c57_3
abbrev c57 : AC := c57_4
theorem code57 : fnCode Try.prog 57 = some (c57, [4000002, 4000003], 10) := by kernel_rfl
/- coinage/coinagebase.Ascending -/
abbrev c58_1 : AC := .reg [⟨(some 6), .mv (.k (.B false)), none⟩] false
abbrev c58_2 : AC := .reg [⟨(some 7), .mv (.k (.I 0)), none⟩] false
abbrev c58_3 : AC := .reg [⟨(some 8), .mv (.t 7), none⟩,
  ⟨(some 9), .mv (.t 0), none⟩,
  ⟨(some 10), .len (.t 9), none⟩,
  ⟨(some 11), .bin .lss (.t 8) (.t 10), none⟩] false
abbrev c58_4 : AC := .cond (.t 11) .skip (.exit 0)
abbrev c58_5 : AC := .seq c58_3 c58_4
abbrev c58_6 : AC := .regD [(⟨(some 14), .mv (.t 0), none⟩, [0]),
  (⟨(some 15), .mv (.t 7), none⟩, [7]),
  (⟨(some 16), .iad 1 (.t 14) (.t 15), none⟩, [14, 15]),
  (⟨(some 17), .ld none (.t 16), none⟩, [16]),
  (⟨(some 18), .mv (.t 1), none⟩, [1]),
  (⟨(some 19), .bin .lss (.t 17) (.t 18), none⟩, [17, 18]),
  (⟨(some 20), .mv (.t 19), none⟩, [19]),
  (⟨(some 21), .mv (.t 0), (some (20, false))⟩, [0, 20]),
  (⟨(some 22), .mv (.t 7), (some (20, false))⟩, [7, 20]),
  (⟨(some 23), .iad 1 (.t 21) (.t 22), (some (20, false))⟩, [21, 22, 20]),
  (⟨(some 24), .ld none (.t 23), (some (20, false))⟩, [23, 20]),
  (⟨(some 25), .mv (.t 2), (some (20, false))⟩, [2, 20]),
  (⟨(some 26), .bin .gtr (.t 24) (.t 25), (some (20, false))⟩, [24, 25, 20]),
  (⟨(some 27), .pick (.t 20) (.k (.B true)) (.t 26), none⟩, [20, 26]),
  (⟨(some 28), .mv (.t 27), none⟩, [27]),
  (⟨(some 29), .mv (.t 7), (some (28, false))⟩, [7, 28]),
  (⟨(some 30), .bin .gtr (.t 29) (.k (.I 0)), (some (28, false))⟩, [29, 28]),
  (⟨(some 31), .mv (.t 30), (some (28, false))⟩, [30, 28]),
  (⟨(some 32), .mv (.t 0), (some (31, true))⟩, [0, 31]),
  (⟨(some 33), .mv (.t 7), (some (31, true))⟩, [7, 31]),
  (⟨(some 34), .iad 1 (.t 32) (.t 33), (some (31, true))⟩, [32, 33, 31]),
  (⟨(some 35), .ld none (.t 34), (some (31, true))⟩, [34, 31]),
  (⟨(some 36), .mv (.t 0), (some (31, true))⟩, [0, 31]),
  (⟨(some 37), .mv (.t 7), (some (31, true))⟩, [7, 31]),
  (⟨(some 38), .bin .sub (.t 37) (.k (.I 1)), (some (31, true))⟩, [37, 31]),
  (⟨(some 39), .iad 1 (.t 36) (.t 38), (some (31, true))⟩, [36, 38, 31]),
  (⟨(some 40), .ld none (.t 39), (some (31, true))⟩, [39, 31]),
  (⟨(some 41), .bin .leq (.t 35) (.t 40), (some (31, true))⟩, [35, 40, 31]),
  (⟨(some 42), .pick (.t 31) (.t 41) (.k (.B false)), (some (28, false))⟩, [31, 41, 28]),
  (⟨(some 43), .pick (.t 28) (.k (.B true)) (.t 42), none⟩, [28, 42])]
abbrev c58_7 : AC := .reg [⟨(some 6), .mv (.k (.B false)), none⟩] false
abbrev c58_8 : AC := .seq c58_7 .ret
abbrev c58_9 : AC := .cond (.t 43) c58_8 .skip
abbrev c58_10 : AC := .seq c58_6 c58_9
abbrev c58_11 : AC := .block 1 c58_10
abbrev c58_12 : AC := .reg [⟨(some 12), .mv (.t 7), none⟩,
  ⟨(some 13), .bin .add (.t 12) (.k (.I 1)), none⟩,
  ⟨(some 7), .mv (.t 13), none⟩] false
abbrev c58_13 : AC := .seq c58_11 c58_12
abbrev c58_14 : AC := .seq c58_5 c58_13
abbrev c58_15 : AC := .loop c58_14
abbrev c58_16 : AC := .block 0 c58_15
abbrev c58_17 : AC := .seq c58_2 c58_16
abbrev c58_18 : AC := .reg [⟨(some 6), .mv (.k (.B true)), none⟩] false
abbrev c58_19 : AC := .seq c58_18 .ret
abbrev c58_20 : AC := .seq c58_17 c58_19
abbrev c58_21 : AC := .seq c58_1 c58_20
abbrev c58 : AC := c58_21
theorem code58 : fnCode Try.prog 58 = some (c58, [6], 44) := by kernel_rfl
/- coinage/coinagebase.Id -/
abbrev c59_1 : AC := .reg [⟨(some 2), .mv (.k (.B false)), none⟩] false
abbrev c59_2 : AC := .reg [⟨(some 3), .mv (.t 0), none⟩,
  ⟨(some 4), .call 67 [(.t 3), (.k (.I 1)), (.k (.I 9999))], none⟩,
  ⟨(some 2), .mv (.t 4), none⟩] false
abbrev c59_3 : AC := .seq c59_2 .ret
abbrev c59_4 : AC := .seq c59_1 c59_3
abbrev c59 : AC := c59_4
theorem code59 : fnCode Try.prog 59 = some (c59, [2], 5) := by kernel_rfl
/- coinage/coinagebase.Has -/
abbrev c60_1 : AC := .reg [⟨(some 4), .mv (.k (.B false)), none⟩] false
abbrev c60_2 : AC := .reg [⟨(some 5), .mv (.k (.I 0)), none⟩] false
abbrev c60_3 : AC := .reg [⟨(some 6), .mv (.t 5), none⟩,
  ⟨(some 7), .mv (.t 0), none⟩,
  ⟨(some 8), .len (.t 7), none⟩,
  ⟨(some 9), .bin .lss (.t 6) (.t 8), none⟩] false
abbrev c60_4 : AC := .cond (.t 9) .skip (.exit 0)
abbrev c60_5 : AC := .seq c60_3 c60_4
abbrev c60_6 : AC := .reg [⟨(some 12), .mv (.t 0), none⟩,
  ⟨(some 13), .mv (.t 5), none⟩,
  ⟨(some 14), .iad 1 (.t 12) (.t 13), none⟩,
  ⟨(some 15), .ld none (.t 14), none⟩,
  ⟨(some 16), .mv (.t 1), none⟩,
  ⟨(some 17), .bin .eql (.t 15) (.t 16), none⟩] false
abbrev c60_7 : AC := .reg [⟨(some 4), .mv (.k (.B true)), none⟩] false
abbrev c60_8 : AC := .seq c60_7 .ret
abbrev c60_9 : AC := .cond (.t 17) c60_8 .skip
abbrev c60_10 : AC := .seq c60_6 c60_9
abbrev c60_11 : AC := .block 1 c60_10
abbrev c60_12 : AC := .reg [⟨(some 10), .mv (.t 5), none⟩,
  ⟨(some 11), .bin .add (.t 10) (.k (.I 1)), none⟩,
  ⟨(some 5), .mv (.t 11), none⟩] false
abbrev c60_13 : AC := .seq c60_11 c60_12
abbrev c60_14 : AC := .seq c60_5 c60_13
abbrev c60_15 : AC := .loop c60_14
abbrev c60_16 : AC := .block 0 c60_15
abbrev c60_17 : AC := .seq c60_2 c60_16
abbrev c60_18 : AC := .reg [⟨(some 4), .mv (.k (.B false)), none⟩] false
abbrev c60_19 : AC := .seq c60_18 .ret
abbrev c60_20 : AC := .seq c60_17 c60_19
abbrev c60_21 : AC := .seq c60_1 c60_20
abbrev c60 : AC := c60_21
theorem code60 : fnCode Try.prog 60 = some (c60, [4], 18) := by kernel_rfl
/- slices.Index[[]int,int] -/
abbrev c61_1 : AC := .reg [⟨(some 4), .mv (.k (.I 0)), none⟩] false
abbrev c61_2 : AC := .reg [⟨(some 6), .mv (.t 0), none⟩,
  ⟨(some 7), .len (.t 6), none⟩,
  ⟨(some 8), .mv (.k (.I 0)), none⟩] false
abbrev c61_3 : AC := .reg [⟨(some 9), .bin .lss (.t 8) (.t 7), none⟩] false
abbrev c61_4 : AC := .cond (.t 9) .skip (.exit 0)
abbrev c61_5 : AC := .reg [⟨(some 10), .mv (.t 8), none⟩,
  ⟨(some 5), .mv (.t 10), none⟩] false
abbrev c61_6 : AC := .reg [⟨(some 11), .mv (.t 1), none⟩,
  ⟨(some 12), .mv (.t 0), none⟩,
  ⟨(some 13), .mv (.t 5), none⟩,
  ⟨(some 14), .iad 1 (.t 12) (.t 13), none⟩,
  ⟨(some 15), .ld none (.t 14), none⟩,
  ⟨(some 16), .bin .eql (.t 11) (.t 15), none⟩] false
abbrev c61_7 : AC := .reg [⟨(some 17), .mv (.t 5), none⟩,
  ⟨(some 4), .mv (.t 17), none⟩] false
abbrev c61_8 : AC := .seq c61_7 .ret
abbrev c61_9 : AC := .cond (.t 16) c61_8 .skip
abbrev c61_10 : AC := .seq c61_6 c61_9
abbrev c61_11 : AC := .seq c61_5 c61_10
abbrev c61_12 : AC := .block 1 c61_11
abbrev c61_13 : AC := .reg [⟨(some 18), .bin .add (.t 8) (.k (.I 1)), none⟩,
  ⟨(some 8), .mv (.t 18), none⟩] false
abbrev c61_14 : AC := .seq c61_12 c61_13
abbrev c61_15 : AC := .seq c61_4 c61_14
abbrev c61_16 : AC := .seq c61_3 c61_15
abbrev c61_17 : AC := .loop c61_16
abbrev c61_18 : AC := .block 0 c61_17
abbrev c61_19 : AC := .seq c61_2 c61_18
abbrev c61_20 : AC := .reg [⟨(some 4), .mv (.k (.I (-1))), none⟩] false
abbrev c61_21 : AC := .seq c61_20 .ret
abbrev c61_22 : AC := .seq c61_19 c61_21
abbrev c61_23 : AC := .seq c61_1 c61_22
abbrev c61 : AC := c61_23
theorem code61 : fnCode Try.prog 61 = some (c61, [4], 19) := by kernel_rfl
/- slices.BinarySearch[[]int,int] -/
abbrev c62_1 : AC := .reg [⟨(some 4), .mv (.k (.I 0)), none⟩,
  ⟨(some 5), .mv (.k (.B false)), none⟩] false
abbrev c62_2 : AC := .reg [⟨(some 10), .mv (.t 0), none⟩,
  ⟨(some 11), .len (.t 10), none⟩,
  ⟨(some 6), .mv (.t 11), none⟩] false
abbrev c62_3 : AC := .reg [⟨(some 12), .mv (.t 6), none⟩,
  ⟨(some 7), .mv (.k (.I 0)), none⟩,
  ⟨(some 8), .mv (.t 12), none⟩] false
abbrev c62_4 : AC := .reg [⟨(some 13), .mv (.t 7), none⟩,
  ⟨(some 14), .mv (.t 8), none⟩,
  ⟨(some 15), .bin .lss (.t 13) (.t 14), none⟩] false
abbrev c62_5 : AC := .cond (.t 15) .skip (.exit 0)
abbrev c62_6 : AC := .seq c62_4 c62_5
abbrev c62_7 : AC := .reg [⟨(some 16), .mv (.t 7), none⟩,
  ⟨(some 17), .mv (.t 8), none⟩,
  ⟨(some 18), .bin .add (.t 16) (.t 17), none⟩,
  ⟨(some 19), .conv .u64 (.t 18), none⟩,
  ⟨(some 20), .bin .shr (.t 19) (.k (.c (.sc (.int .u64 1)))), none⟩,
  ⟨(some 21), .conv .i64 (.t 20), none⟩,
  ⟨(some 9), .mv (.t 21), none⟩] false
abbrev c62_8 : AC := .reg [⟨(some 22), .mv (.t 0), none⟩,
  ⟨(some 23), .mv (.t 9), none⟩,
  ⟨(some 24), .iad 1 (.t 22) (.t 23), none⟩,
  ⟨(some 25), .ld none (.t 24), none⟩,
  ⟨(some 26), .mv (.t 1), none⟩,
  ⟨(some 27), .call 68 [(.t 25), (.t 26)], none⟩] false
abbrev c62_9 : AC := .reg [⟨(some 28), .mv (.t 9), none⟩,
  ⟨(some 29), .bin .add (.t 28) (.k (.I 1)), none⟩,
  ⟨(some 7), .mv (.t 29), none⟩] false
abbrev c62_10 : AC := .reg [⟨(some 30), .mv (.t 9), none⟩,
  ⟨(some 8), .mv (.t 30), none⟩] false
abbrev c62_11 : AC := .cond (.t 27) c62_9 c62_10
abbrev c62_12 : AC := .seq c62_8 c62_11
abbrev c62_13 : AC := .seq c62_7 c62_12
abbrev c62_14 : AC := .block 1 c62_13
abbrev c62_15 : AC := .seq c62_6 c62_14
abbrev c62_16 : AC := .loop c62_15
abbrev c62_17 : AC := .block 0 c62_16
abbrev c62_18 : AC := .reg [⟨(some 31), .mv (.t 7), none⟩,
  ⟨(some 32), .mv (.t 7), none⟩,
  ⟨(some 33), .mv (.t 6), none⟩,
  ⟨(some 34), .bin .lss (.t 32) (.t 33), none⟩,
  ⟨(some 35), .mv (.t 34), none⟩,
  ⟨(some 36), .mv (.t 0), (some (35, true))⟩,
  ⟨(some 37), .mv (.t 7), (some (35, true))⟩,
  ⟨(some 38), .iad 1 (.t 36) (.t 37), (some (35, true))⟩,
  ⟨(some 39), .ld none (.t 38), (some (35, true))⟩,
  ⟨(some 40), .mv (.t 1), (some (35, true))⟩,
  ⟨(some 41), .bin .eql (.t 39) (.t 40), (some (35, true))⟩,
  ⟨(some 42), .mv (.t 41), (some (35, true))⟩,
  ⟨(some 43), .mv (.t 0), (some (42, false))⟩,
  ⟨(some 44), .mv (.t 7), (some (42, false))⟩,
  ⟨(some 45), .iad 1 (.t 43) (.t 44), (some (42, false))⟩,
  ⟨(some 46), .ld none (.t 45), (some (42, false))⟩,
  ⟨(some 47), .call 69 [(.t 46)], (some (42, false))⟩,
  ⟨(some 48), .mv (.t 47), (some (42, false))⟩,
  ⟨(some 49), .mv (.t 1), (some (48, true))⟩,
  ⟨(some 50), .call 69 [(.t 49)], (some (48, true))⟩,
  ⟨(some 51), .pick (.t 48) (.t 50) (.k (.B false)), (some (42, false))⟩,
  ⟨(some 52), .pick (.t 42) (.k (.B true)) (.t 51), (some (35, true))⟩,
  ⟨(some 53), .pick (.t 35) (.t 52) (.k (.B false)), none⟩,
  ⟨(some 4), .mv (.t 31), none⟩,
  ⟨(some 5), .mv (.t 53), none⟩] false
abbrev c62_19 : AC := .seq c62_18 .ret
abbrev c62_20 : AC := .seq c62_17 c62_19
abbrev c62_21 : AC := .seq c62_3 c62_20
abbrev c62_22 : AC := .seq c62_2 c62_21
abbrev c62_23 : AC := .seq c62_1 c62_22
abbrev c62 : AC := c62_23
theorem code62 : fnCode Try.prog 62 = some (c62, [4, 5], 54) := by kernel_rfl
/- slices.Contains[[]coinage/api.Die,coinage/api.Die] -/
abbrev c66_1 : AC := .reg [⟨(some 3), .box 27 (some 2) (.t 1), none⟩,
  ⟨(some 4), .mv (.k (.B false)), none⟩] false
abbrev c66_2 : AC := .reg [⟨(some 5), .mv (.t 0), none⟩,
  ⟨(some 6), .ld (some 2) (.t 3), none⟩,
  ⟨(some 7), .call 72 [(.t 5), (.t 6)], none⟩,
  ⟨(some 8), .bin .geq (.t 7) (.k (.I 0)), none⟩,
  ⟨(some 4), .mv (.t 8), none⟩] false
abbrev c66_3 : AC := .seq c66_2 .ret
abbrev c66_4 : AC := .seq c66_1 c66_3
abbrev c66 : AC := c66_4
theorem code66 : fnCode Try.prog 66 = some (c66, [4], 9) := by kernel_rfl
/- coinage/coinagebase.In -/
abbrev c67_1 : AC := .reg [⟨(some 6), .mv (.k (.B false)), none⟩] false
abbrev c67_2 : AC := .reg [⟨(some 7), .mv (.t 0), none⟩,
  ⟨(some 8), .mv (.t 1), none⟩,
  ⟨(some 9), .bin .geq (.t 7) (.t 8), none⟩,
  ⟨(some 10), .mv (.t 9), none⟩,
  ⟨(some 11), .mv (.t 0), (some (10, true))⟩,
  ⟨(some 12), .mv (.t 2), (some (10, true))⟩,
  ⟨(some 13), .bin .leq (.t 11) (.t 12), (some (10, true))⟩,
  ⟨(some 14), .pick (.t 10) (.t 13) (.k (.B false)), none⟩,
  ⟨(some 6), .mv (.t 14), none⟩] false
abbrev c67_3 : AC := .seq c67_2 .ret
abbrev c67_4 : AC := .seq c67_1 c67_3
abbrev c67 : AC := c67_4
theorem code67 : fnCode Try.prog 67 = some (c67, [6], 15) := by kernel_rfl
/- cmp.Less[int] -/
abbrev c68_1 : AC := .reg [⟨(some 4), .mv (.k (.B false)), none⟩] false
abbrev c68_2 : AC := .reg [⟨(some 5), .mv (.t 0), none⟩,
  ⟨(some 6), .call 73 [(.t 5)], none⟩,
  ⟨(some 7), .mv (.t 6), none⟩,
  ⟨(some 8), .mv (.t 1), (some (7, true))⟩,
  ⟨(some 9), .call 73 [(.t 8)], (some (7, true))⟩,
  ⟨(some 10), .not (.t 9), (some (7, true))⟩,
  ⟨(some 11), .pick (.t 7) (.t 10) (.k (.B false)), none⟩,
  ⟨(some 12), .mv (.t 11), none⟩,
  ⟨(some 13), .mv (.t 0), (some (12, false))⟩,
  ⟨(some 14), .mv (.t 1), (some (12, false))⟩,
  ⟨(some 15), .bin .lss (.t 13) (.t 14), (some (12, false))⟩,
  ⟨(some 16), .pick (.t 12) (.k (.B true)) (.t 15), none⟩,
  ⟨(some 4), .mv (.t 16), none⟩] false
abbrev c68_3 : AC := .seq c68_2 .ret
abbrev c68_4 : AC := .seq c68_1 c68_3
abbrev c68 : AC := c68_4
theorem code68 : fnCode Try.prog 68 = some (c68, [4], 17) := by kernel_rfl
/- slices.isNaN[int] -/
abbrev c69_1 : AC := .reg [⟨(some 2), .mv (.k (.B false)), none⟩] false
abbrev c69_2 : AC := .reg [⟨(some 3), .mv (.t 0), none⟩,
  ⟨(some 4), .mv (.t 0), none⟩,
  ⟨(some 5), .bin .neq (.t 3) (.t 4), none⟩,
  ⟨(some 2), .mv (.t 5), none⟩] false
abbrev c69_3 : AC := .seq c69_2 .ret
abbrev c69_4 : AC := .seq c69_1 c69_3
abbrev c69 : AC := c69_4
theorem code69 : fnCode Try.prog 69 = some (c69, [2], 6) := by kernel_rfl
/- slices.Index[[]coinage/api.Die,coinage/api.Die] -/
abbrev c72_1 : AC := .reg [⟨(some 3), .box 27 (some 2) (.t 1), none⟩,
  ⟨(some 4), .mv (.k (.I 0)), none⟩] false
abbrev c72_2 : AC := .reg [⟨(some 6), .mv (.t 0), none⟩,
  ⟨(some 7), .len (.t 6), none⟩,
  ⟨(some 8), .mv (.k (.I 0)), none⟩] false
abbrev c72_3 : AC := .reg [⟨(some 9), .bin .lss (.t 8) (.t 7), none⟩] false
abbrev c72_4 : AC := .cond (.t 9) .skip (.exit 0)
abbrev c72_5 : AC := .reg [⟨(some 10), .mv (.t 8), none⟩,
  ⟨(some 5), .mv (.t 10), none⟩] false
abbrev c72_6 : AC := .regD [(⟨(some 11), .ld (some 2) (.t 3), none⟩, [3]),
  (⟨(some 12), .mv (.t 0), none⟩, [0]),
  (⟨(some 13), .mv (.t 5), none⟩, [5]),
  (⟨(some 14), .iad 2 (.t 12) (.t 13), none⟩, [12, 13]),
  (⟨(some 15), .ld (some 2) (.t 14), none⟩, [14]),
  (⟨(some 16), .eqs false [false, false] (.t 11) (.t 15), none⟩, [11, 15])]
abbrev c72_7 : AC := .reg [⟨(some 17), .mv (.t 5), none⟩,
  ⟨(some 4), .mv (.t 17), none⟩] false
abbrev c72_8 : AC := .seq c72_7 .ret
abbrev c72_9 : AC := .cond (.t 16) c72_8 .skip
abbrev c72_10 : AC := .seq c72_6 c72_9
abbrev c72_11 : AC := .seq c72_5 c72_10
abbrev c72_12 : AC := .block 1 c72_11
abbrev c72_13 : AC := .reg [⟨(some 18), .bin .add (.t 8) (.k (.I 1)), none⟩,
  ⟨(some 8), .mv (.t 18), none⟩] false
abbrev c72_14 : AC := .seq c72_12 c72_13
abbrev c72_15 : AC := .seq c72_4 c72_14
abbrev c72_16 : AC := .seq c72_3 c72_15
abbrev c72_17 : AC := .loop c72_16
abbrev c72_18 : AC := .block 0 c72_17
abbrev c72_19 : AC := .seq c72_2 c72_18
abbrev c72_20 : AC := .reg [⟨(some 4), .mv (.k (.I (-1))), none⟩] false
abbrev c72_21 : AC := .seq c72_20 .ret
abbrev c72_22 : AC := .seq c72_19 c72_21
abbrev c72_23 : AC := .seq c72_1 c72_22
abbrev c72 : AC := c72_23
theorem code72 : fnCode Try.prog 72 = some (c72, [4], 19) := by kernel_rfl
/- cmp.isNaN[int] -/
abbrev c73_1 : AC := .reg [⟨(some 2), .mv (.k (.B false)), none⟩] false
abbrev c73_2 : AC := .reg [⟨(some 3), .mv (.t 0), none⟩,
  ⟨(some 4), .mv (.t 0), none⟩,
  ⟨(some 5), .bin .neq (.t 3) (.t 4), none⟩,
  ⟨(some 2), .mv (.t 5), none⟩] false
abbrev c73_3 : AC := .seq c73_2 .ret
abbrev c73_4 : AC := .seq c73_1 c73_3
abbrev c73 : AC := c73_4
theorem code73 : fnCode Try.prog 73 = some (c73, [2], 6) := by kernel_rfl

end Go.Proofs.Ytlomngideedobaa

