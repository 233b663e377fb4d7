/-
  Lemmas for the proof: no statement of its own.
-/
import Derived.Test.YtciglfmfemidnaaProg
import Derived.Test.YtciglfmfemidnaaAlD
import Derived.KernelRfl
set_option linter.unusedVariables false
set_option linter.unusedSimpArgs false
open Go Go.AL
namespace Go.Proofs.Ytciglfmfemidnaa
/- coinage/consecutive.Valid -/
abbrev c11_1 : AC := .reg [⟨(some 4), .mv (.k (.B false)), none⟩] false
abbrev c11_2 : AC := .reg [⟨(some 9), .mv (.t 0), none⟩,
  ⟨(some 10), .bin .lss (.t 9) (.k (.I 0)), none⟩,
  ⟨(some 11), .mv (.t 10), none⟩,
  ⟨(some 12), .mv (.t 0), (some (11, false))⟩,
  ⟨(some 13), .bin .gtr (.t 12) (.k (.I 7)), (some (11, false))⟩,
  ⟨(some 14), .pick (.t 11) (.k (.B true)) (.t 13), none⟩,
  ⟨(some 15), .mv (.t 14), none⟩,
  ⟨(some 16), .mv (.t 1), (some (15, false))⟩,
  ⟨(some 17), .len (.t 16), (some (15, false))⟩,
  ⟨(some 18), .bin .gtr (.t 17) (.k (.I 16)), (some (15, false))⟩,
  ⟨(some 19), .pick (.t 15) (.k (.B true)) (.t 18), none⟩] false
abbrev c11_3 : AC := .reg [⟨(some 4), .mv (.k (.B false)), none⟩] false
abbrev c11_4 : AC := .seq c11_3 .ret
abbrev c11_5 : AC := .cond (.t 19) c11_4 .skip
abbrev c11_6 : AC := .seq c11_2 c11_5
abbrev c11_7 : AC := .reg [⟨(some 20), .mv (.t 1), none⟩,
  ⟨(some 21), .len (.t 20), none⟩,
  ⟨(some 22), .mv (.k (.I 0)), none⟩] false
abbrev c11_8 : AC := .reg [⟨(some 23), .bin .lss (.t 22) (.t 21), none⟩] false
abbrev c11_9 : AC := .cond (.t 23) .skip (.exit 0)
abbrev c11_10 : AC := .reg [⟨(some 24), .iad 1 (.t 20) (.t 22), none⟩,
  ⟨(some 25), .ld none (.t 24), none⟩,
  ⟨(some 6), .mv (.t 25), none⟩] false
abbrev c11_11 : AC := .reg [⟨(some 26), .mv (.t 6), none⟩,
  ⟨(some 27), .len (.t 26), none⟩,
  ⟨(some 28), .mv (.k (.I 0)), none⟩] false
abbrev c11_12 : AC := .reg [⟨(some 29), .bin .lss (.t 28) (.t 27), none⟩] false
abbrev c11_13 : AC := .cond (.t 29) .skip (.exit 2)
abbrev c11_14 : AC := .reg [⟨(some 30), .mv (.t 28), none⟩,
  ⟨(some 31), .iad 1 (.t 26) (.t 28), none⟩,
  ⟨(some 32), .ld none (.t 31), none⟩,
  ⟨(some 7), .mv (.t 30), none⟩,
  ⟨(some 8), .mv (.t 32), none⟩] false
abbrev c11_15 : AC := .reg [⟨(some 33), .mv (.t 8), none⟩,
  ⟨(some 34), .bin .lss (.t 33) (.k (.I 0)), none⟩,
  ⟨(some 35), .mv (.t 34), none⟩,
  ⟨(some 36), .mv (.t 8), (some (35, false))⟩,
  ⟨(some 37), .mv (.t 0), (some (35, false))⟩,
  ⟨(some 38), .bin .geq (.t 36) (.t 37), (some (35, false))⟩,
  ⟨(some 39), .pick (.t 35) (.k (.B true)) (.t 38), none⟩,
  ⟨(some 40), .mv (.t 39), none⟩,
  ⟨(some 41), .mv (.t 7), (some (40, false))⟩,
  ⟨(some 42), .bin .gtr (.t 41) (.k (.I 0)), (some (40, false))⟩,
  ⟨(some 43), .mv (.t 42), (some (40, false))⟩,
  ⟨(some 44), .mv (.t 8), (some (43, true))⟩,
  ⟨(some 45), .mv (.t 6), (some (43, true))⟩,
  ⟨(some 46), .mv (.t 7), (some (43, true))⟩,
  ⟨(some 47), .bin .sub (.t 46) (.k (.I 1)), (some (43, true))⟩,
  ⟨(some 48), .iad 1 (.t 45) (.t 47), (some (43, true))⟩,
  ⟨(some 49), .ld none (.t 48), (some (43, true))⟩,
  ⟨(some 50), .bin .leq (.t 44) (.t 49), (some (43, true))⟩,
  ⟨(some 51), .pick (.t 43) (.t 50) (.k (.B false)), (some (40, false))⟩,
  ⟨(some 52), .pick (.t 40) (.k (.B true)) (.t 51), none⟩] false
abbrev c11_16 : AC := .reg [⟨(some 4), .mv (.k (.B false)), none⟩] false
abbrev c11_17 : AC := .seq c11_16 .ret
abbrev c11_18 : AC := .cond (.t 52) c11_17 .skip
abbrev c11_19 : AC := .seq c11_15 c11_18
abbrev c11_20 : AC := .seq c11_14 c11_19
abbrev c11_21 : AC := .block 3 c11_20
abbrev c11_22 : AC := .reg [⟨(some 53), .bin .add (.t 28) (.k (.I 1)), none⟩,
  ⟨(some 28), .mv (.t 53), none⟩] false
abbrev c11_23 : AC := .seq c11_21 c11_22
abbrev c11_24 : AC := .seq c11_13 c11_23
abbrev c11_25 : AC := .seq c11_12 c11_24
abbrev c11_26 : AC := .loop c11_25
abbrev c11_27 : AC := .block 2 c11_26
abbrev c11_28 : AC := .seq c11_11 c11_27
abbrev c11_29 : AC := .seq c11_10 c11_28
abbrev c11_30 : AC := .block 1 c11_29
abbrev c11_31 : AC := .reg [⟨(some 54), .bin .add (.t 22) (.k (.I 1)), none⟩,
  ⟨(some 22), .mv (.t 54), none⟩] false
abbrev c11_32 : AC := .seq c11_30 c11_31
abbrev c11_33 : AC := .seq c11_9 c11_32
abbrev c11_34 : AC := .seq c11_8 c11_33
abbrev c11_35 : AC := .loop c11_34
abbrev c11_36 : AC := .block 0 c11_35
abbrev c11_37 : AC := .seq c11_7 c11_36
abbrev c11_38 : AC := .reg [⟨(some 4), .mv (.k (.B true)), none⟩] false
abbrev c11_39 : AC := .seq c11_38 .ret
abbrev c11_40 : AC := .seq c11_37 c11_39
abbrev c11_41 : AC := .seq c11_6 c11_40
abbrev c11_42 : AC := .seq c11_1 c11_41
abbrev c11 : AC := c11_42
theorem code11 : fnCode Try.prog 11 = some (c11, [4], 55) := by kernel_rfl
/- coinage/coinagebase.Ints -/
abbrev c9_1 : AC := .reg [⟨(some 4), .mv (.k (.B false)), none⟩] false
abbrev c9_2 : AC := .reg [⟨(some 6), .mv (.t 0), none⟩,
  ⟨(some 7), .len (.t 6), none⟩,
  ⟨(some 8), .mv (.t 1), none⟩,
  ⟨(some 9), .len (.t 8), none⟩,
  ⟨(some 10), .bin .neq (.t 7) (.t 9), none⟩] false
abbrev c9_3 : AC := .reg [⟨(some 4), .mv (.k (.B false)), none⟩] false
abbrev c9_4 : AC := .seq c9_3 .ret
abbrev c9_5 : AC := .cond (.t 10) c9_4 .skip
abbrev c9_6 : AC := .seq c9_2 c9_5
abbrev c9_7 : AC := .reg [⟨(some 5), .mv (.k (.I 0)), none⟩] false
abbrev c9_8 : AC := .reg [⟨(some 11), .mv (.t 5), none⟩,
  ⟨(some 12), .mv (.t 0), none⟩,
  ⟨(some 13), .len (.t 12), none⟩,
  ⟨(some 14), .bin .lss (.t 11) (.t 13), none⟩] false
abbrev c9_9 : AC := .cond (.t 14) .skip (.exit 0)
abbrev c9_10 : AC := .seq c9_8 c9_9
abbrev c9_11 : AC := .regD [(⟨(some 17), .mv (.t 0), none⟩, [0]),
  (⟨(some 18), .mv (.t 5), none⟩, [5]),
  (⟨(some 19), .iad 1 (.t 17) (.t 18), none⟩, [17, 18]),
  (⟨(some 20), .ld none (.t 19), none⟩, [19]),
  (⟨(some 21), .mv (.t 1), none⟩, [1]),
  (⟨(some 22), .mv (.t 5), none⟩, [5]),
  (⟨(some 23), .iad 1 (.t 21) (.t 22), none⟩, [21, 22]),
  (⟨(some 24), .ld none (.t 23), none⟩, [23]),
  (⟨(some 25), .bin .neq (.t 20) (.t 24), none⟩, [20, 24])]
abbrev c9_12 : AC := .reg [⟨(some 4), .mv (.k (.B false)), none⟩] false
abbrev c9_13 : AC := .seq c9_12 .ret
abbrev c9_14 : AC := .cond (.t 25) c9_13 .skip
abbrev c9_15 : AC := .seq c9_11 c9_14
abbrev c9_16 : AC := .block 1 c9_15
abbrev c9_17 : AC := .reg [⟨(some 15), .mv (.t 5), none⟩,
  ⟨(some 16), .bin .add (.t 15) (.k (.I 1)), none⟩,
  ⟨(some 5), .mv (.t 16), none⟩] false
abbrev c9_18 : AC := .seq c9_16 c9_17
abbrev c9_19 : AC := .seq c9_10 c9_18
abbrev c9_20 : AC := .loop c9_19
abbrev c9_21 : AC := .block 0 c9_20
abbrev c9_22 : AC := .seq c9_7 c9_21
abbrev c9_23 : AC := .reg [⟨(some 4), .mv (.k (.B true)), none⟩] false
abbrev c9_24 : AC := .seq c9_23 .ret
abbrev c9_25 : AC := .seq c9_22 c9_24
abbrev c9_26 : AC := .seq c9_6 c9_25
abbrev c9_27 : AC := .seq c9_1 c9_26
abbrev c9 : AC := c9_27
theorem code9 : fnCode Try.prog 9 = some (c9, [4], 26) := by kernel_rfl
/- slices.Index[[]int,int] -/
abbrev c26_1 : AC := .reg [⟨(some 4), .mv (.k (.I 0)), none⟩] false
abbrev c26_2 : AC := .reg [⟨(some 6), .mv (.t 0), none⟩,
  ⟨(some 7), .len (.t 6), none⟩,
  ⟨(some 8), .mv (.k (.I 0)), none⟩] false
abbrev c26_3 : AC := .reg [⟨(some 9), .bin .lss (.t 8) (.t 7), none⟩] false
abbrev c26_4 : AC := .cond (.t 9) .skip (.exit 0)
abbrev c26_5 : AC := .reg [⟨(some 10), .mv (.t 8), none⟩,
  ⟨(some 5), .mv (.t 10), none⟩] false
abbrev c26_6 : AC := .reg [⟨(some 11), .mv (.t 1), none⟩,
  ⟨(some 12), .mv (.t 0), none⟩,
  ⟨(some 13), .mv (.t 5), none⟩,
  ⟨(some 14), .iad 1 (.t 12) (.t 13), none⟩,
  ⟨(some 15), .ld none (.t 14), none⟩,
  ⟨(some 16), .bin .eql (.t 11) (.t 15), none⟩] false
abbrev c26_7 : AC := .reg [⟨(some 17), .mv (.t 5), none⟩,
  ⟨(some 4), .mv (.t 17), none⟩] false
abbrev c26_8 : AC := .seq c26_7 .ret
abbrev c26_9 : AC := .cond (.t 16) c26_8 .skip
abbrev c26_10 : AC := .seq c26_6 c26_9
abbrev c26_11 : AC := .seq c26_5 c26_10
abbrev c26_12 : AC := .block 1 c26_11
abbrev c26_13 : AC := .reg [⟨(some 18), .bin .add (.t 8) (.k (.I 1)), none⟩,
  ⟨(some 8), .mv (.t 18), none⟩] false
abbrev c26_14 : AC := .seq c26_12 c26_13
abbrev c26_15 : AC := .seq c26_4 c26_14
abbrev c26_16 : AC := .seq c26_3 c26_15
abbrev c26_17 : AC := .loop c26_16
abbrev c26_18 : AC := .block 0 c26_17
abbrev c26_19 : AC := .seq c26_2 c26_18
abbrev c26_20 : AC := .reg [⟨(some 4), .mv (.k (.I (-1))), none⟩] false
abbrev c26_21 : AC := .seq c26_20 .ret
abbrev c26_22 : AC := .seq c26_19 c26_21
abbrev c26_23 : AC := .seq c26_1 c26_22
abbrev c26 : AC := c26_23
theorem code26 : fnCode Try.prog 26 = some (c26, [4], 19) := by kernel_rfl
/- slices.Clone[[]int,int] -/
abbrev c15_1 : AC := .reg [⟨(some 2), .mv (.k (.c .nil)), none⟩] false
abbrev c15_2 : AC := .reg [⟨(some 3), .mv (.t 0), none⟩,
  ⟨(some 4), .isnil false (.t 3), none⟩] false
abbrev c15_3 : AC := .reg [⟨(some 2), .mv (.k (.c .nil)), none⟩] false
abbrev c15_4 : AC := .seq c15_3 .ret
abbrev c15_5 : AC := .cond (.t 4) c15_4 .skip
abbrev c15_6 : AC := .seq c15_2 c15_5
abbrev c15_7 : AC := .reg [⟨(some 5), .bslice 3 1 [], none⟩,
  ⟨(some 6), .mv (.t 0), none⟩,
  ⟨(some 7), .app 3 1 8 (.t 5) (.t 6), none⟩,
  ⟨(some 2), .mv (.t 7), none⟩] false
abbrev c15_8 : AC := .seq c15_7 .ret
abbrev c15_9 : AC := .seq c15_6 c15_8
abbrev c15_10 : AC := .seq c15_1 c15_9
abbrev c15 : AC := c15_10
theorem code15 : fnCode Try.prog 15 = some (c15, [2], 8) := by kernel_rfl
/- slices.Contains[[]int,int] -/
abbrev c23_1 : AC := .reg [⟨(some 4), .mv (.k (.B false)), none⟩] false
abbrev c23_2 : AC := .reg [⟨(some 5), .mv (.t 0), none⟩,
  ⟨(some 6), .mv (.t 1), none⟩,
  ⟨(some 7), .call 26 [(.t 5), (.t 6)], none⟩,
  ⟨(some 8), .bin .geq (.t 7) (.k (.I 0)), none⟩,
  ⟨(some 4), .mv (.t 8), none⟩] false
abbrev c23_3 : AC := .seq c23_2 .ret
abbrev c23_4 : AC := .seq c23_1 c23_3
abbrev c23 : AC := c23_4
theorem code23 : fnCode Try.prog 23 = some (c23, [4], 9) := by kernel_rfl

end Go.Proofs.Ytciglfmfemidnaa

