/-
  Lemmas for the proof: no statement of its own.
-/
import Derived.Test.YtggcpnnmmcnogaaWalkC
set_option linter.unusedVariables false
set_option linter.unusedSimpArgs false
-- P p_b.txt
open Go Go.AL Go.RowKit
namespace Go.Proofs.Ytggcpnnmmcnogaa
set_option maxRecDepth 20000
/- slices.IndexFunc[[]int,int] -/
abbrev c26_1 : AC := .reg [⟨(some 4), .mv (.k (.I 0)), none⟩] false
abbrev c26_2 : AC := .reg [⟨(some 6), .mv (.t 0), none⟩,
  ⟨(some 7), .len (.t 6), none⟩,
  ⟨(some 8), .mv (.k (.I 0)), none⟩] false
abbrev c26_3 : AC := .reg [⟨(some 9), .bin .lss (.t 8) (.t 7), none⟩] false
abbrev c26_4 : AC := .cond (.t 9) .skip (.exit 0)
abbrev c26_5 : AC := .reg [⟨(some 10), .mv (.t 8), none⟩,
  ⟨(some 5), .mv (.t 10), none⟩] false
abbrev c26_6 : AC := .reg [⟨(some 11), .mv (.t 1), none⟩,
  ⟨(some 12), .mv (.t 0), none⟩,
  ⟨(some 13), .mv (.t 5), none⟩,
  ⟨(some 14), .iad 1 (.t 12) (.t 13), none⟩,
  ⟨(some 15), .ld none (.t 14), none⟩,
  ⟨(some 16), .callv (.t 11) [(.t 15)], none⟩] false
abbrev c26_7 : AC := .reg [⟨(some 17), .mv (.t 5), none⟩,
  ⟨(some 4), .mv (.t 17), none⟩] false
abbrev c26_8 : AC := .seq c26_7 .ret
abbrev c26_9 : AC := .cond (.t 16) c26_8 .skip
abbrev c26_10 : AC := .seq c26_6 c26_9
abbrev c26_11 : AC := .seq c26_5 c26_10
abbrev c26_12 : AC := .block 1 c26_11
abbrev c26_13 : AC := .reg [⟨(some 18), .bin .add (.t 8) (.k (.I 1)), none⟩,
  ⟨(some 8), .mv (.t 18), none⟩] false
abbrev c26_14 : AC := .seq c26_12 c26_13
abbrev c26_15 : AC := .seq c26_4 c26_14
abbrev c26_16 : AC := .seq c26_3 c26_15
abbrev c26_17 : AC := .loop c26_16
abbrev c26_18 : AC := .block 0 c26_17
abbrev c26_19 : AC := .seq c26_2 c26_18
abbrev c26_20 : AC := .reg [⟨(some 4), .mv (.k (.I (-1))), none⟩] false
abbrev c26_21 : AC := .seq c26_20 .ret
abbrev c26_22 : AC := .seq c26_19 c26_21
abbrev c26_23 : AC := .seq c26_1 c26_22
abbrev c26 : AC := c26_23
theorem code26 : fnCode Try.prog 26 = some (c26, [4], 19) := by kernel_rfl
/- slices.ContainsFunc[[]int,int] -/
abbrev c18_1 : AC := .reg [⟨(some 4), .mv (.k (.B false)), none⟩] false
abbrev c18_2 : AC := .reg [⟨(some 5), .mv (.t 0), none⟩,
  ⟨(some 6), .mv (.t 1), none⟩,
  ⟨(some 7), .call 26 [(.t 5), (.t 6)], none⟩,
  ⟨(some 8), .bin .geq (.t 7) (.k (.I 0)), none⟩,
  ⟨(some 4), .mv (.t 8), none⟩] false
abbrev c18_3 : AC := .seq c18_2 .ret
abbrev c18_4 : AC := .seq c18_1 c18_3
abbrev c18 : AC := c18_4
theorem code18 : fnCode Try.prog 18 = some (c18, [4], 9) := by kernel_rfl
/- slices.Index[[]int,int] -/
abbrev c27_1 : AC := .reg [⟨(some 4), .mv (.k (.I 0)), none⟩] false
abbrev c27_2 : AC := .reg [⟨(some 6), .mv (.t 0), none⟩,
  ⟨(some 7), .len (.t 6), none⟩,
  ⟨(some 8), .mv (.k (.I 0)), none⟩] false
abbrev c27_3 : AC := .reg [⟨(some 9), .bin .lss (.t 8) (.t 7), none⟩] false
abbrev c27_4 : AC := .cond (.t 9) .skip (.exit 0)
abbrev c27_5 : AC := .reg [⟨(some 10), .mv (.t 8), none⟩,
  ⟨(some 5), .mv (.t 10), none⟩] false
abbrev c27_6 : AC := .reg [⟨(some 11), .mv (.t 1), none⟩,
  ⟨(some 12), .mv (.t 0), none⟩,
  ⟨(some 13), .mv (.t 5), none⟩,
  ⟨(some 14), .iad 1 (.t 12) (.t 13), none⟩,
  ⟨(some 15), .ld none (.t 14), none⟩,
  ⟨(some 16), .bin .eql (.t 11) (.t 15), none⟩] false
abbrev c27_7 : AC := .reg [⟨(some 17), .mv (.t 5), none⟩,
  ⟨(some 4), .mv (.t 17), none⟩] false
abbrev c27_8 : AC := .seq c27_7 .ret
abbrev c27_9 : AC := .cond (.t 16) c27_8 .skip
abbrev c27_10 : AC := .seq c27_6 c27_9
abbrev c27_11 : AC := .seq c27_5 c27_10
abbrev c27_12 : AC := .block 1 c27_11
abbrev c27_13 : AC := .reg [⟨(some 18), .bin .add (.t 8) (.k (.I 1)), none⟩,
  ⟨(some 8), .mv (.t 18), none⟩] false
abbrev c27_14 : AC := .seq c27_12 c27_13
abbrev c27_15 : AC := .seq c27_4 c27_14
abbrev c27_16 : AC := .seq c27_3 c27_15
abbrev c27_17 : AC := .loop c27_16
abbrev c27_18 : AC := .block 0 c27_17
abbrev c27_19 : AC := .seq c27_2 c27_18
abbrev c27_20 : AC := .reg [⟨(some 4), .mv (.k (.I (-1))), none⟩] false
abbrev c27_21 : AC := .seq c27_20 .ret
abbrev c27_22 : AC := .seq c27_19 c27_21
abbrev c27_23 : AC := .seq c27_1 c27_22
abbrev c27 : AC := c27_23
theorem code27 : fnCode Try.prog 27 = some (c27, [4], 19) := by kernel_rfl
/- slices.Contains[[]int,int] -/
abbrev c20_1 : AC := .reg [⟨(some 4), .mv (.k (.B false)), none⟩] false
abbrev c20_2 : AC := .reg [⟨(some 5), .mv (.t 0), none⟩,
  ⟨(some 6), .mv (.t 1), none⟩,
  ⟨(some 7), .call 27 [(.t 5), (.t 6)], none⟩,
  ⟨(some 8), .bin .geq (.t 7) (.k (.I 0)), none⟩,
  ⟨(some 4), .mv (.t 8), none⟩] false
abbrev c20_3 : AC := .seq c20_2 .ret
abbrev c20_4 : AC := .seq c20_1 c20_3
abbrev c20 : AC := c20_4
theorem code20 : fnCode Try.prog 20 = some (c20, [4], 9) := by kernel_rfl
/- (coinage/coloring.graph).extend$1 -/
abbrev c31_1 : AC := .reg [⟨(some 5), .mv (.k (.B false)), none⟩] false
abbrev c31_2 : AC := .regD [(⟨(some 6), .mv (.t 0), none⟩, [0]),
  (⟨(some 7), .ld none (.t 1), none⟩, [1]),
  (⟨(some 8), .bin .lss (.t 6) (.t 7), none⟩, [6, 7]),
  (⟨(some 9), .mv (.t 8), none⟩, [8]),
  (⟨(some 10), .ld none (.t 2), (some (9, true))⟩, [2, 9]),
  (⟨(some 11), .mv (.t 0), (some (9, true))⟩, [0, 9]),
  (⟨(some 12), .iad 1 (.t 10) (.t 11), (some (9, true))⟩, [10, 11, 9]),
  (⟨(some 13), .ld none (.t 12), (some (9, true))⟩, [12, 9]),
  (⟨(some 14), .ld none (.t 3), (some (9, true))⟩, [3, 9]),
  (⟨(some 15), .bin .eql (.t 13) (.t 14), (some (9, true))⟩, [13, 14, 9]),
  (⟨(some 16), .pick (.t 9) (.t 15) (.k (.B false)), none⟩, [9, 15]),
  (⟨(some 5), .mv (.t 16), none⟩, [16])]
abbrev c31_3 : AC := .seq c31_2 .ret
abbrev c31_4 : AC := .seq c31_1 c31_3
abbrev c31 : AC := c31_4
theorem code31 : fnCode Try.prog 31 = some (c31, [5], 17) := by kernel_rfl
/- (coinage/coloring.graph).extend -/
abbrev c25_1 : AC := .reg [⟨(some 4), .box 31 none (.t 1), none⟩,
  ⟨(some 6), .mv (.k (.c .nil)), none⟩] false
abbrev c25_2 : AC := .reg [⟨(some 13), .ld none (.t 4), none⟩,
  ⟨(some 14), .len (.t 13), none⟩,
  ⟨(some 7), .alloc 3 [(.I 0)], none⟩,
  ⟨none, .st none (.t 7) (.t 14), none⟩] false
abbrev c25_3 : AC := .reg [⟨(some 15), .ld none (.t 7), none⟩,
  ⟨(some 16), .mv (.t 0), none⟩,
  ⟨(some 17), .len (.t 16), none⟩,
  ⟨(some 18), .bin .eql (.t 15) (.t 17), none⟩] false
abbrev c25_4 : AC := .reg [⟨(some 19), .ld none (.t 4), none⟩,
  ⟨(some 6), .mv (.t 19), none⟩] false
abbrev c25_5 : AC := .seq c25_4 .ret
abbrev c25_6 : AC := .cond (.t 18) c25_5 .skip
abbrev c25_7 : AC := .seq c25_3 c25_6
abbrev c25_8 : AC := .reg [⟨(some 8), .mv (.k (.I 0)), none⟩] false
abbrev c25_9 : AC := .reg [⟨(some 20), .ld none (.t 4), none⟩,
  ⟨(some 21), .len (.t 20), none⟩,
  ⟨(some 22), .mv (.k (.I 0)), none⟩] false
abbrev c25_10 : AC := .reg [⟨(some 23), .bin .lss (.t 22) (.t 21), none⟩] false
abbrev c25_11 : AC := .cond (.t 23) .skip (.exit 0)
abbrev c25_12 : AC := .reg [⟨(some 24), .iad 1 (.t 20) (.t 22), none⟩,
  ⟨(some 25), .ld none (.t 24), none⟩,
  ⟨(some 10), .mv (.t 25), none⟩] false
abbrev c25_13 : AC := .reg [⟨(some 26), .mv (.t 8), none⟩,
  ⟨(some 27), .mv (.t 10), none⟩,
  ⟨(some 28), .bin .add (.t 27) (.k (.I 1)), none⟩,
  ⟨(some 29), .minmax true (.t 26) (.t 28), none⟩,
  ⟨(some 8), .mv (.t 29), none⟩] false
abbrev c25_14 : AC := .seq c25_12 c25_13
abbrev c25_15 : AC := .block 1 c25_14
abbrev c25_16 : AC := .reg [⟨(some 30), .bin .add (.t 22) (.k (.I 1)), none⟩,
  ⟨(some 22), .mv (.t 30), none⟩] false
abbrev c25_17 : AC := .seq c25_15 c25_16
abbrev c25_18 : AC := .seq c25_11 c25_17
abbrev c25_19 : AC := .seq c25_10 c25_18
abbrev c25_20 : AC := .loop c25_19
abbrev c25_21 : AC := .block 0 c25_20
abbrev c25_22 : AC := .seq c25_9 c25_21
abbrev c25_23 : AC := .reg [⟨(some 31), .mv (.t 2), none⟩,
  ⟨(some 32), .mv (.t 8), none⟩,
  ⟨(some 33), .bin .add (.t 32) (.k (.I 1)), none⟩,
  ⟨(some 34), .minmax false (.t 31) (.t 33), none⟩,
  ⟨(some 35), .mv (.k (.I 0)), none⟩] false
abbrev c25_24 : AC := .reg [⟨(some 36), .bin .lss (.t 35) (.t 34), none⟩] false
abbrev c25_25 : AC := .cond (.t 36) .skip (.exit 2)
abbrev c25_26 : AC := .reg [⟨(some 37), .mv (.t 35), none⟩,
  ⟨(some 11), .alloc 3 [(.I 0)], none⟩,
  ⟨none, .st none (.t 11) (.t 37), none⟩] false
abbrev c25_27 : AC := .reg [⟨(some 38), .mv (.t 0), none⟩,
  ⟨(some 39), .ld none (.t 7), none⟩,
  ⟨(some 40), .iad 1 (.t 38) (.t 39), none⟩,
  ⟨(some 41), .ld none (.t 40), none⟩,
  ⟨(some 42), .mkfn 31 [(.t 7), (.t 4), (.t 11)], none⟩,
  ⟨(some 43), .call 18 [(.t 41), (.t 42)], none⟩] false
abbrev c25_28 : AC := .cond (.t 43) (.exit 3) .skip
abbrev c25_29 : AC := .seq c25_27 c25_28
abbrev c25_30 : AC := .regX (.first ⟨(some 44), .mv (.t 0), none⟩
  (.first ⟨(some 52), .mv (.t 2), none⟩
  (.fork ⟨(some 45), .ld none (.t 4), none⟩
  (.fork ⟨(some 46), .ld none (.t 7), none⟩
  (.fork ⟨(some 47), .ld none (.t 7), none⟩
  (.fork ⟨(some 48), .slc3 1 (.t 45) (.t 46) (.t 47), none⟩
  (.fork ⟨(some 49), .ld none (.t 11), none⟩
  (.fork ⟨(some 50), .bslice 3 1 [(.t 49)], none⟩
  (.fork ⟨(some 51), .app 3 1 8 (.t 48) (.t 50), none⟩
  (.fork ⟨(some 53), .call 25 [(.t 44), (.t 51), (.t 52)], none⟩
  (.first ⟨(some 12), .mv (.t 53), none⟩
  .done)
  .nope)
  .nope)
  .nope)
  .nope)
  (.fork ⟨(some 49), .ld none (.t 11), none⟩
  (.fork ⟨(some 48), .slc3 1 (.t 45) (.t 46) (.t 47), none⟩
  (.fork ⟨(some 50), .bslice 3 1 [(.t 49)], none⟩
  (.fork ⟨(some 51), .app 3 1 8 (.t 48) (.t 50), none⟩
  (.fork ⟨(some 53), .call 25 [(.t 44), (.t 51), (.t 52)], none⟩
  (.first ⟨(some 12), .mv (.t 53), none⟩
  .done)
  .nope)
  .nope)
  .nope)
  (.fork ⟨(some 50), .bslice 3 1 [(.t 49)], none⟩
  (.fork ⟨(some 48), .slc3 1 (.t 45) (.t 46) (.t 47), none⟩
  (.fork ⟨(some 51), .app 3 1 8 (.t 48) (.t 50), none⟩
  (.fork ⟨(some 53), .call 25 [(.t 44), (.t 51), (.t 52)], none⟩
  (.first ⟨(some 12), .mv (.t 53), none⟩
  .done)
  .nope)
  .nope)
  .nope)
  .nope))
  .nope))
  (.fork ⟨(some 49), .ld none (.t 11), none⟩
  (.fork ⟨(some 47), .ld none (.t 7), none⟩
  (.fork ⟨(some 48), .slc3 1 (.t 45) (.t 46) (.t 47), none⟩
  (.fork ⟨(some 50), .bslice 3 1 [(.t 49)], none⟩
  (.fork ⟨(some 51), .app 3 1 8 (.t 48) (.t 50), none⟩
  (.fork ⟨(some 53), .call 25 [(.t 44), (.t 51), (.t 52)], none⟩
  (.first ⟨(some 12), .mv (.t 53), none⟩
  .done)
  .nope)
  .nope)
  .nope)
  (.fork ⟨(some 50), .bslice 3 1 [(.t 49)], none⟩
  (.fork ⟨(some 48), .slc3 1 (.t 45) (.t 46) (.t 47), none⟩
  (.fork ⟨(some 51), .app 3 1 8 (.t 48) (.t 50), none⟩
  (.fork ⟨(some 53), .call 25 [(.t 44), (.t 51), (.t 52)], none⟩
  (.first ⟨(some 12), .mv (.t 53), none⟩
  .done)
  .nope)
  .nope)
  .nope)
  .nope))
  (.fork ⟨(some 50), .bslice 3 1 [(.t 49)], none⟩
  (.fork ⟨(some 47), .ld none (.t 7), none⟩
  (.fork ⟨(some 48), .slc3 1 (.t 45) (.t 46) (.t 47), none⟩
  (.fork ⟨(some 51), .app 3 1 8 (.t 48) (.t 50), none⟩
  (.fork ⟨(some 53), .call 25 [(.t 44), (.t 51), (.t 52)], none⟩
  (.first ⟨(some 12), .mv (.t 53), none⟩
  .done)
  .nope)
  .nope)
  .nope)
  .nope)
  .nope))
  .nope))
  (.fork ⟨(some 47), .ld none (.t 7), none⟩
  (.fork ⟨(some 46), .ld none (.t 7), none⟩
  (.fork ⟨(some 48), .slc3 1 (.t 45) (.t 46) (.t 47), none⟩
  (.fork ⟨(some 49), .ld none (.t 11), none⟩
  (.fork ⟨(some 50), .bslice 3 1 [(.t 49)], none⟩
  (.fork ⟨(some 51), .app 3 1 8 (.t 48) (.t 50), none⟩
  (.fork ⟨(some 53), .call 25 [(.t 44), (.t 51), (.t 52)], none⟩
  (.first ⟨(some 12), .mv (.t 53), none⟩
  .done)
  .nope)
  .nope)
  .nope)
  .nope)
  (.fork ⟨(some 49), .ld none (.t 11), none⟩
  (.fork ⟨(some 48), .slc3 1 (.t 45) (.t 46) (.t 47), none⟩
  (.fork ⟨(some 50), .bslice 3 1 [(.t 49)], none⟩
  (.fork ⟨(some 51), .app 3 1 8 (.t 48) (.t 50), none⟩
  (.fork ⟨(some 53), .call 25 [(.t 44), (.t 51), (.t 52)], none⟩
  (.first ⟨(some 12), .mv (.t 53), none⟩
  .done)
  .nope)
  .nope)
  .nope)
  (.fork ⟨(some 50), .bslice 3 1 [(.t 49)], none⟩
  (.fork ⟨(some 48), .slc3 1 (.t 45) (.t 46) (.t 47), none⟩
  (.fork ⟨(some 51), .app 3 1 8 (.t 48) (.t 50), none⟩
  (.fork ⟨(some 53), .call 25 [(.t 44), (.t 51), (.t 52)], none⟩
  (.first ⟨(some 12), .mv (.t 53), none⟩
  .done)
  .nope)
  .nope)
  .nope)
  .nope))
  .nope))
  (.fork ⟨(some 49), .ld none (.t 11), none⟩
  (.fork ⟨(some 46), .ld none (.t 7), none⟩
  (.fork ⟨(some 48), .slc3 1 (.t 45) (.t 46) (.t 47), none⟩
  (.fork ⟨(some 50), .bslice 3 1 [(.t 49)], none⟩
  (.fork ⟨(some 51), .app 3 1 8 (.t 48) (.t 50), none⟩
  (.fork ⟨(some 53), .call 25 [(.t 44), (.t 51), (.t 52)], none⟩
  (.first ⟨(some 12), .mv (.t 53), none⟩
  .done)
  .nope)
  .nope)
  .nope)
  (.fork ⟨(some 50), .bslice 3 1 [(.t 49)], none⟩
  (.fork ⟨(some 48), .slc3 1 (.t 45) (.t 46) (.t 47), none⟩
  (.fork ⟨(some 51), .app 3 1 8 (.t 48) (.t 50), none⟩
  (.fork ⟨(some 53), .call 25 [(.t 44), (.t 51), (.t 52)], none⟩
  (.first ⟨(some 12), .mv (.t 53), none⟩
  .done)
  .nope)
  .nope)
  .nope)
  .nope))
  (.fork ⟨(some 50), .bslice 3 1 [(.t 49)], none⟩
  (.fork ⟨(some 46), .ld none (.t 7), none⟩
  (.fork ⟨(some 48), .slc3 1 (.t 45) (.t 46) (.t 47), none⟩
  (.fork ⟨(some 51), .app 3 1 8 (.t 48) (.t 50), none⟩
  (.fork ⟨(some 53), .call 25 [(.t 44), (.t 51), (.t 52)], none⟩
  (.first ⟨(some 12), .mv (.t 53), none⟩
  .done)
  .nope)
  .nope)
  .nope)
  .nope)
  .nope))
  .nope))
  (.fork ⟨(some 49), .ld none (.t 11), none⟩
  (.fork ⟨(some 46), .ld none (.t 7), none⟩
  (.fork ⟨(some 47), .ld none (.t 7), none⟩
  (.fork ⟨(some 48), .slc3 1 (.t 45) (.t 46) (.t 47), none⟩
  (.fork ⟨(some 50), .bslice 3 1 [(.t 49)], none⟩
  (.fork ⟨(some 51), .app 3 1 8 (.t 48) (.t 50), none⟩
  (.fork ⟨(some 53), .call 25 [(.t 44), (.t 51), (.t 52)], none⟩
  (.first ⟨(some 12), .mv (.t 53), none⟩
  .done)
  .nope)
  .nope)
  .nope)
  (.fork ⟨(some 50), .bslice 3 1 [(.t 49)], none⟩
  (.fork ⟨(some 48), .slc3 1 (.t 45) (.t 46) (.t 47), none⟩
  (.fork ⟨(some 51), .app 3 1 8 (.t 48) (.t 50), none⟩
  (.fork ⟨(some 53), .call 25 [(.t 44), (.t 51), (.t 52)], none⟩
  (.first ⟨(some 12), .mv (.t 53), none⟩
  .done)
  .nope)
  .nope)
  .nope)
  .nope))
  (.fork ⟨(some 50), .bslice 3 1 [(.t 49)], none⟩
  (.fork ⟨(some 47), .ld none (.t 7), none⟩
  (.fork ⟨(some 48), .slc3 1 (.t 45) (.t 46) (.t 47), none⟩
  (.fork ⟨(some 51), .app 3 1 8 (.t 48) (.t 50), none⟩
  (.fork ⟨(some 53), .call 25 [(.t 44), (.t 51), (.t 52)], none⟩
  (.first ⟨(some 12), .mv (.t 53), none⟩
  .done)
  .nope)
  .nope)
  .nope)
  .nope)
  .nope))
  (.fork ⟨(some 47), .ld none (.t 7), none⟩
  (.fork ⟨(some 46), .ld none (.t 7), none⟩
  (.fork ⟨(some 48), .slc3 1 (.t 45) (.t 46) (.t 47), none⟩
  (.fork ⟨(some 50), .bslice 3 1 [(.t 49)], none⟩
  (.fork ⟨(some 51), .app 3 1 8 (.t 48) (.t 50), none⟩
  (.fork ⟨(some 53), .call 25 [(.t 44), (.t 51), (.t 52)], none⟩
  (.first ⟨(some 12), .mv (.t 53), none⟩
  .done)
  .nope)
  .nope)
  .nope)
  (.fork ⟨(some 50), .bslice 3 1 [(.t 49)], none⟩
  (.fork ⟨(some 48), .slc3 1 (.t 45) (.t 46) (.t 47), none⟩
  (.fork ⟨(some 51), .app 3 1 8 (.t 48) (.t 50), none⟩
  (.fork ⟨(some 53), .call 25 [(.t 44), (.t 51), (.t 52)], none⟩
  (.first ⟨(some 12), .mv (.t 53), none⟩
  .done)
  .nope)
  .nope)
  .nope)
  .nope))
  (.fork ⟨(some 50), .bslice 3 1 [(.t 49)], none⟩
  (.fork ⟨(some 46), .ld none (.t 7), none⟩
  (.fork ⟨(some 48), .slc3 1 (.t 45) (.t 46) (.t 47), none⟩
  (.fork ⟨(some 51), .app 3 1 8 (.t 48) (.t 50), none⟩
  (.fork ⟨(some 53), .call 25 [(.t 44), (.t 51), (.t 52)], none⟩
  (.first ⟨(some 12), .mv (.t 53), none⟩
  .done)
  .nope)
  .nope)
  .nope)
  .nope)
  .nope))
  (.fork ⟨(some 50), .bslice 3 1 [(.t 49)], none⟩
  (.fork ⟨(some 46), .ld none (.t 7), none⟩
  (.fork ⟨(some 47), .ld none (.t 7), none⟩
  (.fork ⟨(some 48), .slc3 1 (.t 45) (.t 46) (.t 47), none⟩
  (.fork ⟨(some 51), .app 3 1 8 (.t 48) (.t 50), none⟩
  (.fork ⟨(some 53), .call 25 [(.t 44), (.t 51), (.t 52)], none⟩
  (.first ⟨(some 12), .mv (.t 53), none⟩
  .done)
  .nope)
  .nope)
  .nope)
  .nope)
  (.fork ⟨(some 47), .ld none (.t 7), none⟩
  (.fork ⟨(some 46), .ld none (.t 7), none⟩
  (.fork ⟨(some 48), .slc3 1 (.t 45) (.t 46) (.t 47), none⟩
  (.fork ⟨(some 51), .app 3 1 8 (.t 48) (.t 50), none⟩
  (.fork ⟨(some 53), .call 25 [(.t 44), (.t 51), (.t 52)], none⟩
  (.first ⟨(some 12), .mv (.t 53), none⟩
  .done)
  .nope)
  .nope)
  .nope)
  .nope)
  .nope))
  .nope)))
  .nope)))
  (.fork ⟨(some 46), .ld none (.t 7), none⟩
  (.fork ⟨(some 45), .ld none (.t 4), none⟩
  (.fork ⟨(some 47), .ld none (.t 7), none⟩
  (.fork ⟨(some 48), .slc3 1 (.t 45) (.t 46) (.t 47), none⟩
  (.fork ⟨(some 49), .ld none (.t 11), none⟩
  (.fork ⟨(some 50), .bslice 3 1 [(.t 49)], none⟩
  (.fork ⟨(some 51), .app 3 1 8 (.t 48) (.t 50), none⟩
  (.fork ⟨(some 53), .call 25 [(.t 44), (.t 51), (.t 52)], none⟩
  (.first ⟨(some 12), .mv (.t 53), none⟩
  .done)
  .nope)
  .nope)
  .nope)
  .nope)
  (.fork ⟨(some 49), .ld none (.t 11), none⟩
  (.fork ⟨(some 48), .slc3 1 (.t 45) (.t 46) (.t 47), none⟩
  (.fork ⟨(some 50), .bslice 3 1 [(.t 49)], none⟩
  (.fork ⟨(some 51), .app 3 1 8 (.t 48) (.t 50), none⟩
  (.fork ⟨(some 53), .call 25 [(.t 44), (.t 51), (.t 52)], none⟩
  (.first ⟨(some 12), .mv (.t 53), none⟩
  .done)
  .nope)
  .nope)
  .nope)
  (.fork ⟨(some 50), .bslice 3 1 [(.t 49)], none⟩
  (.fork ⟨(some 48), .slc3 1 (.t 45) (.t 46) (.t 47), none⟩
  (.fork ⟨(some 51), .app 3 1 8 (.t 48) (.t 50), none⟩
  (.fork ⟨(some 53), .call 25 [(.t 44), (.t 51), (.t 52)], none⟩
  (.first ⟨(some 12), .mv (.t 53), none⟩
  .done)
  .nope)
  .nope)
  .nope)
  .nope))
  .nope))
  (.fork ⟨(some 49), .ld none (.t 11), none⟩
  (.fork ⟨(some 47), .ld none (.t 7), none⟩
  (.fork ⟨(some 48), .slc3 1 (.t 45) (.t 46) (.t 47), none⟩
  (.fork ⟨(some 50), .bslice 3 1 [(.t 49)], none⟩
  (.fork ⟨(some 51), .app 3 1 8 (.t 48) (.t 50), none⟩
  (.fork ⟨(some 53), .call 25 [(.t 44), (.t 51), (.t 52)], none⟩
  (.first ⟨(some 12), .mv (.t 53), none⟩
  .done)
  .nope)
  .nope)
  .nope)
  (.fork ⟨(some 50), .bslice 3 1 [(.t 49)], none⟩
  (.fork ⟨(some 48), .slc3 1 (.t 45) (.t 46) (.t 47), none⟩
  (.fork ⟨(some 51), .app 3 1 8 (.t 48) (.t 50), none⟩
  (.fork ⟨(some 53), .call 25 [(.t 44), (.t 51), (.t 52)], none⟩
  (.first ⟨(some 12), .mv (.t 53), none⟩
  .done)
  .nope)
  .nope)
  .nope)
  .nope))
  (.fork ⟨(some 50), .bslice 3 1 [(.t 49)], none⟩
  (.fork ⟨(some 47), .ld none (.t 7), none⟩
  (.fork ⟨(some 48), .slc3 1 (.t 45) (.t 46) (.t 47), none⟩
  (.fork ⟨(some 51), .app 3 1 8 (.t 48) (.t 50), none⟩
  (.fork ⟨(some 53), .call 25 [(.t 44), (.t 51), (.t 52)], none⟩
  (.first ⟨(some 12), .mv (.t 53), none⟩
  .done)
  .nope)
  .nope)
  .nope)
  .nope)
  .nope))
  .nope))
  (.fork ⟨(some 47), .ld none (.t 7), none⟩
  (.fork ⟨(some 45), .ld none (.t 4), none⟩
  (.fork ⟨(some 48), .slc3 1 (.t 45) (.t 46) (.t 47), none⟩
  (.fork ⟨(some 49), .ld none (.t 11), none⟩
  (.fork ⟨(some 50), .bslice 3 1 [(.t 49)], none⟩
  (.fork ⟨(some 51), .app 3 1 8 (.t 48) (.t 50), none⟩
  (.fork ⟨(some 53), .call 25 [(.t 44), (.t 51), (.t 52)], none⟩
  (.first ⟨(some 12), .mv (.t 53), none⟩
  .done)
  .nope)
  .nope)
  .nope)
  .nope)
  (.fork ⟨(some 49), .ld none (.t 11), none⟩
  (.fork ⟨(some 48), .slc3 1 (.t 45) (.t 46) (.t 47), none⟩
  (.fork ⟨(some 50), .bslice 3 1 [(.t 49)], none⟩
  (.fork ⟨(some 51), .app 3 1 8 (.t 48) (.t 50), none⟩
  (.fork ⟨(some 53), .call 25 [(.t 44), (.t 51), (.t 52)], none⟩
  (.first ⟨(some 12), .mv (.t 53), none⟩
  .done)
  .nope)
  .nope)
  .nope)
  (.fork ⟨(some 50), .bslice 3 1 [(.t 49)], none⟩
  (.fork ⟨(some 48), .slc3 1 (.t 45) (.t 46) (.t 47), none⟩
  (.fork ⟨(some 51), .app 3 1 8 (.t 48) (.t 50), none⟩
  (.fork ⟨(some 53), .call 25 [(.t 44), (.t 51), (.t 52)], none⟩
  (.first ⟨(some 12), .mv (.t 53), none⟩
  .done)
  .nope)
  .nope)
  .nope)
  .nope))
  .nope))
  (.fork ⟨(some 49), .ld none (.t 11), none⟩
  (.fork ⟨(some 45), .ld none (.t 4), none⟩
  (.fork ⟨(some 48), .slc3 1 (.t 45) (.t 46) (.t 47), none⟩
  (.fork ⟨(some 50), .bslice 3 1 [(.t 49)], none⟩
  (.fork ⟨(some 51), .app 3 1 8 (.t 48) (.t 50), none⟩
  (.fork ⟨(some 53), .call 25 [(.t 44), (.t 51), (.t 52)], none⟩
  (.first ⟨(some 12), .mv (.t 53), none⟩
  .done)
  .nope)
  .nope)
  .nope)
  (.fork ⟨(some 50), .bslice 3 1 [(.t 49)], none⟩
  (.fork ⟨(some 48), .slc3 1 (.t 45) (.t 46) (.t 47), none⟩
  (.fork ⟨(some 51), .app 3 1 8 (.t 48) (.t 50), none⟩
  (.fork ⟨(some 53), .call 25 [(.t 44), (.t 51), (.t 52)], none⟩
  (.first ⟨(some 12), .mv (.t 53), none⟩
  .done)
  .nope)
  .nope)
  .nope)
  .nope))
  (.fork ⟨(some 50), .bslice 3 1 [(.t 49)], none⟩
  (.fork ⟨(some 45), .ld none (.t 4), none⟩
  (.fork ⟨(some 48), .slc3 1 (.t 45) (.t 46) (.t 47), none⟩
  (.fork ⟨(some 51), .app 3 1 8 (.t 48) (.t 50), none⟩
  (.fork ⟨(some 53), .call 25 [(.t 44), (.t 51), (.t 52)], none⟩
  (.first ⟨(some 12), .mv (.t 53), none⟩
  .done)
  .nope)
  .nope)
  .nope)
  .nope)
  .nope))
  .nope))
  (.fork ⟨(some 49), .ld none (.t 11), none⟩
  (.fork ⟨(some 45), .ld none (.t 4), none⟩
  (.fork ⟨(some 47), .ld none (.t 7), none⟩
  (.fork ⟨(some 48), .slc3 1 (.t 45) (.t 46) (.t 47), none⟩
  (.fork ⟨(some 50), .bslice 3 1 [(.t 49)], none⟩
  (.fork ⟨(some 51), .app 3 1 8 (.t 48) (.t 50), none⟩
  (.fork ⟨(some 53), .call 25 [(.t 44), (.t 51), (.t 52)], none⟩
  (.first ⟨(some 12), .mv (.t 53), none⟩
  .done)
  .nope)
  .nope)
  .nope)
  (.fork ⟨(some 50), .bslice 3 1 [(.t 49)], none⟩
  (.fork ⟨(some 48), .slc3 1 (.t 45) (.t 46) (.t 47), none⟩
  (.fork ⟨(some 51), .app 3 1 8 (.t 48) (.t 50), none⟩
  (.fork ⟨(some 53), .call 25 [(.t 44), (.t 51), (.t 52)], none⟩
  (.first ⟨(some 12), .mv (.t 53), none⟩
  .done)
  .nope)
  .nope)
  .nope)
  .nope))
  (.fork ⟨(some 50), .bslice 3 1 [(.t 49)], none⟩
  (.fork ⟨(some 47), .ld none (.t 7), none⟩
  (.fork ⟨(some 48), .slc3 1 (.t 45) (.t 46) (.t 47), none⟩
  (.fork ⟨(some 51), .app 3 1 8 (.t 48) (.t 50), none⟩
  (.fork ⟨(some 53), .call 25 [(.t 44), (.t 51), (.t 52)], none⟩
  (.first ⟨(some 12), .mv (.t 53), none⟩
  .done)
  .nope)
  .nope)
  .nope)
  .nope)
  .nope))
  (.fork ⟨(some 47), .ld none (.t 7), none⟩
  (.fork ⟨(some 45), .ld none (.t 4), none⟩
  (.fork ⟨(some 48), .slc3 1 (.t 45) (.t 46) (.t 47), none⟩
  (.fork ⟨(some 50), .bslice 3 1 [(.t 49)], none⟩
  (.fork ⟨(some 51), .app 3 1 8 (.t 48) (.t 50), none⟩
  (.fork ⟨(some 53), .call 25 [(.t 44), (.t 51), (.t 52)], none⟩
  (.first ⟨(some 12), .mv (.t 53), none⟩
  .done)
  .nope)
  .nope)
  .nope)
  (.fork ⟨(some 50), .bslice 3 1 [(.t 49)], none⟩
  (.fork ⟨(some 48), .slc3 1 (.t 45) (.t 46) (.t 47), none⟩
  (.fork ⟨(some 51), .app 3 1 8 (.t 48) (.t 50), none⟩
  (.fork ⟨(some 53), .call 25 [(.t 44), (.t 51), (.t 52)], none⟩
  (.first ⟨(some 12), .mv (.t 53), none⟩
  .done)
  .nope)
  .nope)
  .nope)
  .nope))
  (.fork ⟨(some 50), .bslice 3 1 [(.t 49)], none⟩
  (.fork ⟨(some 45), .ld none (.t 4), none⟩
  (.fork ⟨(some 48), .slc3 1 (.t 45) (.t 46) (.t 47), none⟩
  (.fork ⟨(some 51), .app 3 1 8 (.t 48) (.t 50), none⟩
  (.fork ⟨(some 53), .call 25 [(.t 44), (.t 51), (.t 52)], none⟩
  (.first ⟨(some 12), .mv (.t 53), none⟩
  .done)
  .nope)
  .nope)
  .nope)
  .nope)
  .nope))
  (.fork ⟨(some 50), .bslice 3 1 [(.t 49)], none⟩
  (.fork ⟨(some 45), .ld none (.t 4), none⟩
  (.fork ⟨(some 47), .ld none (.t 7), none⟩
  (.fork ⟨(some 48), .slc3 1 (.t 45) (.t 46) (.t 47), none⟩
  (.fork ⟨(some 51), .app 3 1 8 (.t 48) (.t 50), none⟩
  (.fork ⟨(some 53), .call 25 [(.t 44), (.t 51), (.t 52)], none⟩
  (.first ⟨(some 12), .mv (.t 53), none⟩
  .done)
  .nope)
  .nope)
  .nope)
  .nope)
  (.fork ⟨(some 47), .ld none (.t 7), none⟩
  (.fork ⟨(some 45), .ld none (.t 4), none⟩
  (.fork ⟨(some 48), .slc3 1 (.t 45) (.t 46) (.t 47), none⟩
  (.fork ⟨(some 51), .app 3 1 8 (.t 48) (.t 50), none⟩
  (.fork ⟨(some 53), .call 25 [(.t 44), (.t 51), (.t 52)], none⟩
  (.first ⟨(some 12), .mv (.t 53), none⟩
  .done)
  .nope)
  .nope)
  .nope)
  .nope)
  .nope))
  .nope)))
  .nope)))
  (.fork ⟨(some 47), .ld none (.t 7), none⟩
  (.fork ⟨(some 45), .ld none (.t 4), none⟩
  (.fork ⟨(some 46), .ld none (.t 7), none⟩
  (.fork ⟨(some 48), .slc3 1 (.t 45) (.t 46) (.t 47), none⟩
  (.fork ⟨(some 49), .ld none (.t 11), none⟩
  (.fork ⟨(some 50), .bslice 3 1 [(.t 49)], none⟩
  (.fork ⟨(some 51), .app 3 1 8 (.t 48) (.t 50), none⟩
  (.fork ⟨(some 53), .call 25 [(.t 44), (.t 51), (.t 52)], none⟩
  (.first ⟨(some 12), .mv (.t 53), none⟩
  .done)
  .nope)
  .nope)
  .nope)
  .nope)
  (.fork ⟨(some 49), .ld none (.t 11), none⟩
  (.fork ⟨(some 48), .slc3 1 (.t 45) (.t 46) (.t 47), none⟩
  (.fork ⟨(some 50), .bslice 3 1 [(.t 49)], none⟩
  (.fork ⟨(some 51), .app 3 1 8 (.t 48) (.t 50), none⟩
  (.fork ⟨(some 53), .call 25 [(.t 44), (.t 51), (.t 52)], none⟩
  (.first ⟨(some 12), .mv (.t 53), none⟩
  .done)
  .nope)
  .nope)
  .nope)
  (.fork ⟨(some 50), .bslice 3 1 [(.t 49)], none⟩
  (.fork ⟨(some 48), .slc3 1 (.t 45) (.t 46) (.t 47), none⟩
  (.fork ⟨(some 51), .app 3 1 8 (.t 48) (.t 50), none⟩
  (.fork ⟨(some 53), .call 25 [(.t 44), (.t 51), (.t 52)], none⟩
  (.first ⟨(some 12), .mv (.t 53), none⟩
  .done)
  .nope)
  .nope)
  .nope)
  .nope))
  .nope))
  (.fork ⟨(some 49), .ld none (.t 11), none⟩
  (.fork ⟨(some 46), .ld none (.t 7), none⟩
  (.fork ⟨(some 48), .slc3 1 (.t 45) (.t 46) (.t 47), none⟩
  (.fork ⟨(some 50), .bslice 3 1 [(.t 49)], none⟩
  (.fork ⟨(some 51), .app 3 1 8 (.t 48) (.t 50), none⟩
  (.fork ⟨(some 53), .call 25 [(.t 44), (.t 51), (.t 52)], none⟩
  (.first ⟨(some 12), .mv (.t 53), none⟩
  .done)
  .nope)
  .nope)
  .nope)
  (.fork ⟨(some 50), .bslice 3 1 [(.t 49)], none⟩
  (.fork ⟨(some 48), .slc3 1 (.t 45) (.t 46) (.t 47), none⟩
  (.fork ⟨(some 51), .app 3 1 8 (.t 48) (.t 50), none⟩
  (.fork ⟨(some 53), .call 25 [(.t 44), (.t 51), (.t 52)], none⟩
  (.first ⟨(some 12), .mv (.t 53), none⟩
  .done)
  .nope)
  .nope)
  .nope)
  .nope))
  (.fork ⟨(some 50), .bslice 3 1 [(.t 49)], none⟩
  (.fork ⟨(some 46), .ld none (.t 7), none⟩
  (.fork ⟨(some 48), .slc3 1 (.t 45) (.t 46) (.t 47), none⟩
  (.fork ⟨(some 51), .app 3 1 8 (.t 48) (.t 50), none⟩
  (.fork ⟨(some 53), .call 25 [(.t 44), (.t 51), (.t 52)], none⟩
  (.first ⟨(some 12), .mv (.t 53), none⟩
  .done)
  .nope)
  .nope)
  .nope)
  .nope)
  .nope))
  .nope))
  (.fork ⟨(some 46), .ld none (.t 7), none⟩
  (.fork ⟨(some 45), .ld none (.t 4), none⟩
  (.fork ⟨(some 48), .slc3 1 (.t 45) (.t 46) (.t 47), none⟩
  (.fork ⟨(some 49), .ld none (.t 11), none⟩
  (.fork ⟨(some 50), .bslice 3 1 [(.t 49)], none⟩
  (.fork ⟨(some 51), .app 3 1 8 (.t 48) (.t 50), none⟩
  (.fork ⟨(some 53), .call 25 [(.t 44), (.t 51), (.t 52)], none⟩
  (.first ⟨(some 12), .mv (.t 53), none⟩
  .done)
  .nope)
  .nope)
  .nope)
  .nope)
  (.fork ⟨(some 49), .ld none (.t 11), none⟩
  (.fork ⟨(some 48), .slc3 1 (.t 45) (.t 46) (.t 47), none⟩
  (.fork ⟨(some 50), .bslice 3 1 [(.t 49)], none⟩
  (.fork ⟨(some 51), .app 3 1 8 (.t 48) (.t 50), none⟩
  (.fork ⟨(some 53), .call 25 [(.t 44), (.t 51), (.t 52)], none⟩
  (.first ⟨(some 12), .mv (.t 53), none⟩
  .done)
  .nope)
  .nope)
  .nope)
  (.fork ⟨(some 50), .bslice 3 1 [(.t 49)], none⟩
  (.fork ⟨(some 48), .slc3 1 (.t 45) (.t 46) (.t 47), none⟩
  (.fork ⟨(some 51), .app 3 1 8 (.t 48) (.t 50), none⟩
  (.fork ⟨(some 53), .call 25 [(.t 44), (.t 51), (.t 52)], none⟩
  (.first ⟨(some 12), .mv (.t 53), none⟩
  .done)
  .nope)
  .nope)
  .nope)
  .nope))
  .nope))
  (.fork ⟨(some 49), .ld none (.t 11), none⟩
  (.fork ⟨(some 45), .ld none (.t 4), none⟩
  (.fork ⟨(some 48), .slc3 1 (.t 45) (.t 46) (.t 47), none⟩
  (.fork ⟨(some 50), .bslice 3 1 [(.t 49)], none⟩
  (.fork ⟨(some 51), .app 3 1 8 (.t 48) (.t 50), none⟩
  (.fork ⟨(some 53), .call 25 [(.t 44), (.t 51), (.t 52)], none⟩
  (.first ⟨(some 12), .mv (.t 53), none⟩
  .done)
  .nope)
  .nope)
  .nope)
  (.fork ⟨(some 50), .bslice 3 1 [(.t 49)], none⟩
  (.fork ⟨(some 48), .slc3 1 (.t 45) (.t 46) (.t 47), none⟩
  (.fork ⟨(some 51), .app 3 1 8 (.t 48) (.t 50), none⟩
  (.fork ⟨(some 53), .call 25 [(.t 44), (.t 51), (.t 52)], none⟩
  (.first ⟨(some 12), .mv (.t 53), none⟩
  .done)
  .nope)
  .nope)
  .nope)
  .nope))
  (.fork ⟨(some 50), .bslice 3 1 [(.t 49)], none⟩
  (.fork ⟨(some 45), .ld none (.t 4), none⟩
  (.fork ⟨(some 48), .slc3 1 (.t 45) (.t 46) (.t 47), none⟩
  (.fork ⟨(some 51), .app 3 1 8 (.t 48) (.t 50), none⟩
  (.fork ⟨(some 53), .call 25 [(.t 44), (.t 51), (.t 52)], none⟩
  (.first ⟨(some 12), .mv (.t 53), none⟩
  .done)
  .nope)
  .nope)
  .nope)
  .nope)
  .nope))
  .nope))
  (.fork ⟨(some 49), .ld none (.t 11), none⟩
  (.fork ⟨(some 45), .ld none (.t 4), none⟩
  (.fork ⟨(some 46), .ld none (.t 7), none⟩
  (.fork ⟨(some 48), .slc3 1 (.t 45) (.t 46) (.t 47), none⟩
  (.fork ⟨(some 50), .bslice 3 1 [(.t 49)], none⟩
  (.fork ⟨(some 51), .app 3 1 8 (.t 48) (.t 50), none⟩
  (.fork ⟨(some 53), .call 25 [(.t 44), (.t 51), (.t 52)], none⟩
  (.first ⟨(some 12), .mv (.t 53), none⟩
  .done)
  .nope)
  .nope)
  .nope)
  (.fork ⟨(some 50), .bslice 3 1 [(.t 49)], none⟩
  (.fork ⟨(some 48), .slc3 1 (.t 45) (.t 46) (.t 47), none⟩
  (.fork ⟨(some 51), .app 3 1 8 (.t 48) (.t 50), none⟩
  (.fork ⟨(some 53), .call 25 [(.t 44), (.t 51), (.t 52)], none⟩
  (.first ⟨(some 12), .mv (.t 53), none⟩
  .done)
  .nope)
  .nope)
  .nope)
  .nope))
  (.fork ⟨(some 50), .bslice 3 1 [(.t 49)], none⟩
  (.fork ⟨(some 46), .ld none (.t 7), none⟩
  (.fork ⟨(some 48), .slc3 1 (.t 45) (.t 46) (.t 47), none⟩
  (.fork ⟨(some 51), .app 3 1 8 (.t 48) (.t 50), none⟩
  (.fork ⟨(some 53), .call 25 [(.t 44), (.t 51), (.t 52)], none⟩
  (.first ⟨(some 12), .mv (.t 53), none⟩
  .done)
  .nope)
  .nope)
  .nope)
  .nope)
  .nope))
  (.fork ⟨(some 46), .ld none (.t 7), none⟩
  (.fork ⟨(some 45), .ld none (.t 4), none⟩
  (.fork ⟨(some 48), .slc3 1 (.t 45) (.t 46) (.t 47), none⟩
  (.fork ⟨(some 50), .bslice 3 1 [(.t 49)], none⟩
  (.fork ⟨(some 51), .app 3 1 8 (.t 48) (.t 50), none⟩
  (.fork ⟨(some 53), .call 25 [(.t 44), (.t 51), (.t 52)], none⟩
  (.first ⟨(some 12), .mv (.t 53), none⟩
  .done)
  .nope)
  .nope)
  .nope)
  (.fork ⟨(some 50), .bslice 3 1 [(.t 49)], none⟩
  (.fork ⟨(some 48), .slc3 1 (.t 45) (.t 46) (.t 47), none⟩
  (.fork ⟨(some 51), .app 3 1 8 (.t 48) (.t 50), none⟩
  (.fork ⟨(some 53), .call 25 [(.t 44), (.t 51), (.t 52)], none⟩
  (.first ⟨(some 12), .mv (.t 53), none⟩
  .done)
  .nope)
  .nope)
  .nope)
  .nope))
  (.fork ⟨(some 50), .bslice 3 1 [(.t 49)], none⟩
  (.fork ⟨(some 45), .ld none (.t 4), none⟩
  (.fork ⟨(some 48), .slc3 1 (.t 45) (.t 46) (.t 47), none⟩
  (.fork ⟨(some 51), .app 3 1 8 (.t 48) (.t 50), none⟩
  (.fork ⟨(some 53), .call 25 [(.t 44), (.t 51), (.t 52)], none⟩
  (.first ⟨(some 12), .mv (.t 53), none⟩
  .done)
  .nope)
  .nope)
  .nope)
  .nope)
  .nope))
  (.fork ⟨(some 50), .bslice 3 1 [(.t 49)], none⟩
  (.fork ⟨(some 45), .ld none (.t 4), none⟩
  (.fork ⟨(some 46), .ld none (.t 7), none⟩
  (.fork ⟨(some 48), .slc3 1 (.t 45) (.t 46) (.t 47), none⟩
  (.fork ⟨(some 51), .app 3 1 8 (.t 48) (.t 50), none⟩
  (.fork ⟨(some 53), .call 25 [(.t 44), (.t 51), (.t 52)], none⟩
  (.first ⟨(some 12), .mv (.t 53), none⟩
  .done)
  .nope)
  .nope)
  .nope)
  .nope)
  (.fork ⟨(some 46), .ld none (.t 7), none⟩
  (.fork ⟨(some 45), .ld none (.t 4), none⟩
  (.fork ⟨(some 48), .slc3 1 (.t 45) (.t 46) (.t 47), none⟩
  (.fork ⟨(some 51), .app 3 1 8 (.t 48) (.t 50), none⟩
  (.fork ⟨(some 53), .call 25 [(.t 44), (.t 51), (.t 52)], none⟩
  (.first ⟨(some 12), .mv (.t 53), none⟩
  .done)
  .nope)
  .nope)
  .nope)
  .nope)
  .nope))
  .nope)))
  .nope)))
  (.fork ⟨(some 49), .ld none (.t 11), none⟩
  (.fork ⟨(some 45), .ld none (.t 4), none⟩
  (.fork ⟨(some 46), .ld none (.t 7), none⟩
  (.fork ⟨(some 47), .ld none (.t 7), none⟩
  (.fork ⟨(some 48), .slc3 1 (.t 45) (.t 46) (.t 47), none⟩
  (.fork ⟨(some 50), .bslice 3 1 [(.t 49)], none⟩
  (.fork ⟨(some 51), .app 3 1 8 (.t 48) (.t 50), none⟩
  (.fork ⟨(some 53), .call 25 [(.t 44), (.t 51), (.t 52)], none⟩
  (.first ⟨(some 12), .mv (.t 53), none⟩
  .done)
  .nope)
  .nope)
  .nope)
  (.fork ⟨(some 50), .bslice 3 1 [(.t 49)], none⟩
  (.fork ⟨(some 48), .slc3 1 (.t 45) (.t 46) (.t 47), none⟩
  (.fork ⟨(some 51), .app 3 1 8 (.t 48) (.t 50), none⟩
  (.fork ⟨(some 53), .call 25 [(.t 44), (.t 51), (.t 52)], none⟩
  (.first ⟨(some 12), .mv (.t 53), none⟩
  .done)
  .nope)
  .nope)
  .nope)
  .nope))
  (.fork ⟨(some 50), .bslice 3 1 [(.t 49)], none⟩
  (.fork ⟨(some 47), .ld none (.t 7), none⟩
  (.fork ⟨(some 48), .slc3 1 (.t 45) (.t 46) (.t 47), none⟩
  (.fork ⟨(some 51), .app 3 1 8 (.t 48) (.t 50), none⟩
  (.fork ⟨(some 53), .call 25 [(.t 44), (.t 51), (.t 52)], none⟩
  (.first ⟨(some 12), .mv (.t 53), none⟩
  .done)
  .nope)
  .nope)
  .nope)
  .nope)
  .nope))
  (.fork ⟨(some 47), .ld none (.t 7), none⟩
  (.fork ⟨(some 46), .ld none (.t 7), none⟩
  (.fork ⟨(some 48), .slc3 1 (.t 45) (.t 46) (.t 47), none⟩
  (.fork ⟨(some 50), .bslice 3 1 [(.t 49)], none⟩
  (.fork ⟨(some 51), .app 3 1 8 (.t 48) (.t 50), none⟩
  (.fork ⟨(some 53), .call 25 [(.t 44), (.t 51), (.t 52)], none⟩
  (.first ⟨(some 12), .mv (.t 53), none⟩
  .done)
  .nope)
  .nope)
  .nope)
  (.fork ⟨(some 50), .bslice 3 1 [(.t 49)], none⟩
  (.fork ⟨(some 48), .slc3 1 (.t 45) (.t 46) (.t 47), none⟩
  (.fork ⟨(some 51), .app 3 1 8 (.t 48) (.t 50), none⟩
  (.fork ⟨(some 53), .call 25 [(.t 44), (.t 51), (.t 52)], none⟩
  (.first ⟨(some 12), .mv (.t 53), none⟩
  .done)
  .nope)
  .nope)
  .nope)
  .nope))
  (.fork ⟨(some 50), .bslice 3 1 [(.t 49)], none⟩
  (.fork ⟨(some 46), .ld none (.t 7), none⟩
  (.fork ⟨(some 48), .slc3 1 (.t 45) (.t 46) (.t 47), none⟩
  (.fork ⟨(some 51), .app 3 1 8 (.t 48) (.t 50), none⟩
  (.fork ⟨(some 53), .call 25 [(.t 44), (.t 51), (.t 52)], none⟩
  (.first ⟨(some 12), .mv (.t 53), none⟩
  .done)
  .nope)
  .nope)
  .nope)
  .nope)
  .nope))
  (.fork ⟨(some 50), .bslice 3 1 [(.t 49)], none⟩
  (.fork ⟨(some 46), .ld none (.t 7), none⟩
  (.fork ⟨(some 47), .ld none (.t 7), none⟩
  (.fork ⟨(some 48), .slc3 1 (.t 45) (.t 46) (.t 47), none⟩
  (.fork ⟨(some 51), .app 3 1 8 (.t 48) (.t 50), none⟩
  (.fork ⟨(some 53), .call 25 [(.t 44), (.t 51), (.t 52)], none⟩
  (.first ⟨(some 12), .mv (.t 53), none⟩
  .done)
  .nope)
  .nope)
  .nope)
  .nope)
  (.fork ⟨(some 47), .ld none (.t 7), none⟩
  (.fork ⟨(some 46), .ld none (.t 7), none⟩
  (.fork ⟨(some 48), .slc3 1 (.t 45) (.t 46) (.t 47), none⟩
  (.fork ⟨(some 51), .app 3 1 8 (.t 48) (.t 50), none⟩
  (.fork ⟨(some 53), .call 25 [(.t 44), (.t 51), (.t 52)], none⟩
  (.first ⟨(some 12), .mv (.t 53), none⟩
  .done)
  .nope)
  .nope)
  .nope)
  .nope)
  .nope))
  .nope)))
  (.fork ⟨(some 46), .ld none (.t 7), none⟩
  (.fork ⟨(some 45), .ld none (.t 4), none⟩
  (.fork ⟨(some 47), .ld none (.t 7), none⟩
  (.fork ⟨(some 48), .slc3 1 (.t 45) (.t 46) (.t 47), none⟩
  (.fork ⟨(some 50), .bslice 3 1 [(.t 49)], none⟩
  (.fork ⟨(some 51), .app 3 1 8 (.t 48) (.t 50), none⟩
  (.fork ⟨(some 53), .call 25 [(.t 44), (.t 51), (.t 52)], none⟩
  (.first ⟨(some 12), .mv (.t 53), none⟩
  .done)
  .nope)
  .nope)
  .nope)
  (.fork ⟨(some 50), .bslice 3 1 [(.t 49)], none⟩
  (.fork ⟨(some 48), .slc3 1 (.t 45) (.t 46) (.t 47), none⟩
  (.fork ⟨(some 51), .app 3 1 8 (.t 48) (.t 50), none⟩
  (.fork ⟨(some 53), .call 25 [(.t 44), (.t 51), (.t 52)], none⟩
  (.first ⟨(some 12), .mv (.t 53), none⟩
  .done)
  .nope)
  .nope)
  .nope)
  .nope))
  (.fork ⟨(some 50), .bslice 3 1 [(.t 49)], none⟩
  (.fork ⟨(some 47), .ld none (.t 7), none⟩
  (.fork ⟨(some 48), .slc3 1 (.t 45) (.t 46) (.t 47), none⟩
  (.fork ⟨(some 51), .app 3 1 8 (.t 48) (.t 50), none⟩
  (.fork ⟨(some 53), .call 25 [(.t 44), (.t 51), (.t 52)], none⟩
  (.first ⟨(some 12), .mv (.t 53), none⟩
  .done)
  .nope)
  .nope)
  .nope)
  .nope)
  .nope))
  (.fork ⟨(some 47), .ld none (.t 7), none⟩
  (.fork ⟨(some 45), .ld none (.t 4), none⟩
  (.fork ⟨(some 48), .slc3 1 (.t 45) (.t 46) (.t 47), none⟩
  (.fork ⟨(some 50), .bslice 3 1 [(.t 49)], none⟩
  (.fork ⟨(some 51), .app 3 1 8 (.t 48) (.t 50), none⟩
  (.fork ⟨(some 53), .call 25 [(.t 44), (.t 51), (.t 52)], none⟩
  (.first ⟨(some 12), .mv (.t 53), none⟩
  .done)
  .nope)
  .nope)
  .nope)
  (.fork ⟨(some 50), .bslice 3 1 [(.t 49)], none⟩
  (.fork ⟨(some 48), .slc3 1 (.t 45) (.t 46) (.t 47), none⟩
  (.fork ⟨(some 51), .app 3 1 8 (.t 48) (.t 50), none⟩
  (.fork ⟨(some 53), .call 25 [(.t 44), (.t 51), (.t 52)], none⟩
  (.first ⟨(some 12), .mv (.t 53), none⟩
  .done)
  .nope)
  .nope)
  .nope)
  .nope))
  (.fork ⟨(some 50), .bslice 3 1 [(.t 49)], none⟩
  (.fork ⟨(some 45), .ld none (.t 4), none⟩
  (.fork ⟨(some 48), .slc3 1 (.t 45) (.t 46) (.t 47), none⟩
  (.fork ⟨(some 51), .app 3 1 8 (.t 48) (.t 50), none⟩
  (.fork ⟨(some 53), .call 25 [(.t 44), (.t 51), (.t 52)], none⟩
  (.first ⟨(some 12), .mv (.t 53), none⟩
  .done)
  .nope)
  .nope)
  .nope)
  .nope)
  .nope))
  (.fork ⟨(some 50), .bslice 3 1 [(.t 49)], none⟩
  (.fork ⟨(some 45), .ld none (.t 4), none⟩
  (.fork ⟨(some 47), .ld none (.t 7), none⟩
  (.fork ⟨(some 48), .slc3 1 (.t 45) (.t 46) (.t 47), none⟩
  (.fork ⟨(some 51), .app 3 1 8 (.t 48) (.t 50), none⟩
  (.fork ⟨(some 53), .call 25 [(.t 44), (.t 51), (.t 52)], none⟩
  (.first ⟨(some 12), .mv (.t 53), none⟩
  .done)
  .nope)
  .nope)
  .nope)
  .nope)
  (.fork ⟨(some 47), .ld none (.t 7), none⟩
  (.fork ⟨(some 45), .ld none (.t 4), none⟩
  (.fork ⟨(some 48), .slc3 1 (.t 45) (.t 46) (.t 47), none⟩
  (.fork ⟨(some 51), .app 3 1 8 (.t 48) (.t 50), none⟩
  (.fork ⟨(some 53), .call 25 [(.t 44), (.t 51), (.t 52)], none⟩
  (.first ⟨(some 12), .mv (.t 53), none⟩
  .done)
  .nope)
  .nope)
  .nope)
  .nope)
  .nope))
  .nope)))
  (.fork ⟨(some 47), .ld none (.t 7), none⟩
  (.fork ⟨(some 45), .ld none (.t 4), none⟩
  (.fork ⟨(some 46), .ld none (.t 7), none⟩
  (.fork ⟨(some 48), .slc3 1 (.t 45) (.t 46) (.t 47), none⟩
  (.fork ⟨(some 50), .bslice 3 1 [(.t 49)], none⟩
  (.fork ⟨(some 51), .app 3 1 8 (.t 48) (.t 50), none⟩
  (.fork ⟨(some 53), .call 25 [(.t 44), (.t 51), (.t 52)], none⟩
  (.first ⟨(some 12), .mv (.t 53), none⟩
  .done)
  .nope)
  .nope)
  .nope)
  (.fork ⟨(some 50), .bslice 3 1 [(.t 49)], none⟩
  (.fork ⟨(some 48), .slc3 1 (.t 45) (.t 46) (.t 47), none⟩
  (.fork ⟨(some 51), .app 3 1 8 (.t 48) (.t 50), none⟩
  (.fork ⟨(some 53), .call 25 [(.t 44), (.t 51), (.t 52)], none⟩
  (.first ⟨(some 12), .mv (.t 53), none⟩
  .done)
  .nope)
  .nope)
  .nope)
  .nope))
  (.fork ⟨(some 50), .bslice 3 1 [(.t 49)], none⟩
  (.fork ⟨(some 46), .ld none (.t 7), none⟩
  (.fork ⟨(some 48), .slc3 1 (.t 45) (.t 46) (.t 47), none⟩
  (.fork ⟨(some 51), .app 3 1 8 (.t 48) (.t 50), none⟩
  (.fork ⟨(some 53), .call 25 [(.t 44), (.t 51), (.t 52)], none⟩
  (.first ⟨(some 12), .mv (.t 53), none⟩
  .done)
  .nope)
  .nope)
  .nope)
  .nope)
  .nope))
  (.fork ⟨(some 46), .ld none (.t 7), none⟩
  (.fork ⟨(some 45), .ld none (.t 4), none⟩
  (.fork ⟨(some 48), .slc3 1 (.t 45) (.t 46) (.t 47), none⟩
  (.fork ⟨(some 50), .bslice 3 1 [(.t 49)], none⟩
  (.fork ⟨(some 51), .app 3 1 8 (.t 48) (.t 50), none⟩
  (.fork ⟨(some 53), .call 25 [(.t 44), (.t 51), (.t 52)], none⟩
  (.first ⟨(some 12), .mv (.t 53), none⟩
  .done)
  .nope)
  .nope)
  .nope)
  (.fork ⟨(some 50), .bslice 3 1 [(.t 49)], none⟩
  (.fork ⟨(some 48), .slc3 1 (.t 45) (.t 46) (.t 47), none⟩
  (.fork ⟨(some 51), .app 3 1 8 (.t 48) (.t 50), none⟩
  (.fork ⟨(some 53), .call 25 [(.t 44), (.t 51), (.t 52)], none⟩
  (.first ⟨(some 12), .mv (.t 53), none⟩
  .done)
  .nope)
  .nope)
  .nope)
  .nope))
  (.fork ⟨(some 50), .bslice 3 1 [(.t 49)], none⟩
  (.fork ⟨(some 45), .ld none (.t 4), none⟩
  (.fork ⟨(some 48), .slc3 1 (.t 45) (.t 46) (.t 47), none⟩
  (.fork ⟨(some 51), .app 3 1 8 (.t 48) (.t 50), none⟩
  (.fork ⟨(some 53), .call 25 [(.t 44), (.t 51), (.t 52)], none⟩
  (.first ⟨(some 12), .mv (.t 53), none⟩
  .done)
  .nope)
  .nope)
  .nope)
  .nope)
  .nope))
  (.fork ⟨(some 50), .bslice 3 1 [(.t 49)], none⟩
  (.fork ⟨(some 45), .ld none (.t 4), none⟩
  (.fork ⟨(some 46), .ld none (.t 7), none⟩
  (.fork ⟨(some 48), .slc3 1 (.t 45) (.t 46) (.t 47), none⟩
  (.fork ⟨(some 51), .app 3 1 8 (.t 48) (.t 50), none⟩
  (.fork ⟨(some 53), .call 25 [(.t 44), (.t 51), (.t 52)], none⟩
  (.first ⟨(some 12), .mv (.t 53), none⟩
  .done)
  .nope)
  .nope)
  .nope)
  .nope)
  (.fork ⟨(some 46), .ld none (.t 7), none⟩
  (.fork ⟨(some 45), .ld none (.t 4), none⟩
  (.fork ⟨(some 48), .slc3 1 (.t 45) (.t 46) (.t 47), none⟩
  (.fork ⟨(some 51), .app 3 1 8 (.t 48) (.t 50), none⟩
  (.fork ⟨(some 53), .call 25 [(.t 44), (.t 51), (.t 52)], none⟩
  (.first ⟨(some 12), .mv (.t 53), none⟩
  .done)
  .nope)
  .nope)
  .nope)
  .nope)
  .nope))
  .nope)))
  (.fork ⟨(some 50), .bslice 3 1 [(.t 49)], none⟩
  (.fork ⟨(some 45), .ld none (.t 4), none⟩
  (.fork ⟨(some 46), .ld none (.t 7), none⟩
  (.fork ⟨(some 47), .ld none (.t 7), none⟩
  (.fork ⟨(some 48), .slc3 1 (.t 45) (.t 46) (.t 47), none⟩
  (.fork ⟨(some 51), .app 3 1 8 (.t 48) (.t 50), none⟩
  (.fork ⟨(some 53), .call 25 [(.t 44), (.t 51), (.t 52)], none⟩
  (.first ⟨(some 12), .mv (.t 53), none⟩
  .done)
  .nope)
  .nope)
  .nope)
  .nope)
  (.fork ⟨(some 47), .ld none (.t 7), none⟩
  (.fork ⟨(some 46), .ld none (.t 7), none⟩
  (.fork ⟨(some 48), .slc3 1 (.t 45) (.t 46) (.t 47), none⟩
  (.fork ⟨(some 51), .app 3 1 8 (.t 48) (.t 50), none⟩
  (.fork ⟨(some 53), .call 25 [(.t 44), (.t 51), (.t 52)], none⟩
  (.first ⟨(some 12), .mv (.t 53), none⟩
  .done)
  .nope)
  .nope)
  .nope)
  .nope)
  .nope))
  (.fork ⟨(some 46), .ld none (.t 7), none⟩
  (.fork ⟨(some 45), .ld none (.t 4), none⟩
  (.fork ⟨(some 47), .ld none (.t 7), none⟩
  (.fork ⟨(some 48), .slc3 1 (.t 45) (.t 46) (.t 47), none⟩
  (.fork ⟨(some 51), .app 3 1 8 (.t 48) (.t 50), none⟩
  (.fork ⟨(some 53), .call 25 [(.t 44), (.t 51), (.t 52)], none⟩
  (.first ⟨(some 12), .mv (.t 53), none⟩
  .done)
  .nope)
  .nope)
  .nope)
  .nope)
  (.fork ⟨(some 47), .ld none (.t 7), none⟩
  (.fork ⟨(some 45), .ld none (.t 4), none⟩
  (.fork ⟨(some 48), .slc3 1 (.t 45) (.t 46) (.t 47), none⟩
  (.fork ⟨(some 51), .app 3 1 8 (.t 48) (.t 50), none⟩
  (.fork ⟨(some 53), .call 25 [(.t 44), (.t 51), (.t 52)], none⟩
  (.first ⟨(some 12), .mv (.t 53), none⟩
  .done)
  .nope)
  .nope)
  .nope)
  .nope)
  .nope))
  (.fork ⟨(some 47), .ld none (.t 7), none⟩
  (.fork ⟨(some 45), .ld none (.t 4), none⟩
  (.fork ⟨(some 46), .ld none (.t 7), none⟩
  (.fork ⟨(some 48), .slc3 1 (.t 45) (.t 46) (.t 47), none⟩
  (.fork ⟨(some 51), .app 3 1 8 (.t 48) (.t 50), none⟩
  (.fork ⟨(some 53), .call 25 [(.t 44), (.t 51), (.t 52)], none⟩
  (.first ⟨(some 12), .mv (.t 53), none⟩
  .done)
  .nope)
  .nope)
  .nope)
  .nope)
  (.fork ⟨(some 46), .ld none (.t 7), none⟩
  (.fork ⟨(some 45), .ld none (.t 4), none⟩
  (.fork ⟨(some 48), .slc3 1 (.t 45) (.t 46) (.t 47), none⟩
  (.fork ⟨(some 51), .app 3 1 8 (.t 48) (.t 50), none⟩
  (.fork ⟨(some 53), .call 25 [(.t 44), (.t 51), (.t 52)], none⟩
  (.first ⟨(some 12), .mv (.t 53), none⟩
  .done)
  .nope)
  .nope)
  .nope)
  .nope)
  .nope))
  .nope)))
  .nope))))
  .nope))))))
abbrev c25_31 : AC := .reg [⟨(some 54), .mv (.t 12), none⟩,
  ⟨(some 55), .isnil true (.t 54), none⟩] false
abbrev c25_32 : AC := .reg [⟨(some 56), .mv (.t 12), none⟩,
  ⟨(some 6), .mv (.t 56), none⟩] false
abbrev c25_33 : AC := .seq c25_32 .ret
abbrev c25_34 : AC := .cond (.t 55) c25_33 .skip
abbrev c25_35 : AC := .seq c25_31 c25_34
abbrev c25_36 : AC := .seq c25_30 c25_35
abbrev c25_37 : AC := .seq c25_29 c25_36
abbrev c25_38 : AC := .seq c25_26 c25_37
abbrev c25_39 : AC := .block 3 c25_38
abbrev c25_40 : AC := .reg [⟨(some 57), .bin .add (.t 35) (.k (.I 1)), none⟩,
  ⟨(some 35), .mv (.t 57), none⟩] false
abbrev c25_41 : AC := .seq c25_39 c25_40
abbrev c25_42 : AC := .seq c25_25 c25_41
abbrev c25_43 : AC := .seq c25_24 c25_42
abbrev c25_44 : AC := .loop c25_43
abbrev c25_45 : AC := .block 2 c25_44
abbrev c25_46 : AC := .seq c25_23 c25_45
abbrev c25_47 : AC := .reg [⟨(some 6), .mv (.k (.c .nil)), none⟩] false
abbrev c25_48 : AC := .seq c25_47 .ret
abbrev c25_49 : AC := .seq c25_46 c25_48
abbrev c25_50 : AC := .seq c25_22 c25_49
abbrev c25_51 : AC := .seq c25_8 c25_50
abbrev c25_52 : AC := .seq c25_7 c25_51
abbrev c25_53 : AC := .seq c25_2 c25_52
abbrev c25_54 : AC := .seq c25_1 c25_53
abbrev c25 : AC := c25_54
theorem code25 : fnCode Try.prog 25 = some (c25, [6], 58) := by kernel_rfl
/- coinage/coloring.best -/
abbrev c14_1 : AC := .reg [⟨(some 4), .mv (.k (.c .nil)), none⟩,
  ⟨(some 5), .mv (.k (.I 0)), none⟩] false
abbrev c14_2 : AC := .reg [⟨(some 9), .mv (.t 0), none⟩,
  ⟨(some 10), .mv (.t 1), none⟩,
  ⟨(some 11), .call 15 [(.t 9), (.t 10)], none⟩,
  ⟨(some 6), .mv (.t 11), none⟩] false
abbrev c14_3 : AC := .reg [⟨(some 7), .mv (.k (.I 0)), none⟩] false
abbrev c14_4 : AC := .reg [⟨(some 14), .mv (.t 6), none⟩,
  ⟨(some 15), .bslice 3 1 [], none⟩,
  ⟨(some 16), .mv (.t 7), none⟩,
  ⟨(some 17), .call 25 [(.t 14), (.t 15), (.t 16)], none⟩,
  ⟨(some 8), .mv (.t 17), none⟩] false
abbrev c14_5 : AC := .reg [⟨(some 18), .mv (.t 8), none⟩,
  ⟨(some 19), .isnil true (.t 18), none⟩] false
abbrev c14_6 : AC := .reg [⟨(some 20), .mv (.t 8), none⟩,
  ⟨(some 21), .mv (.t 7), none⟩,
  ⟨(some 4), .mv (.t 20), none⟩,
  ⟨(some 5), .mv (.t 21), none⟩] false
abbrev c14_7 : AC := .seq c14_6 .ret
abbrev c14_8 : AC := .cond (.t 19) c14_7 .skip
abbrev c14_9 : AC := .seq c14_5 c14_8
abbrev c14_10 : AC := .seq c14_4 c14_9
abbrev c14_11 : AC := .block 1 c14_10
abbrev c14_12 : AC := .reg [⟨(some 12), .mv (.t 7), none⟩,
  ⟨(some 13), .bin .add (.t 12) (.k (.I 1)), none⟩,
  ⟨(some 7), .mv (.t 13), none⟩] false
abbrev c14_13 : AC := .seq c14_11 c14_12
abbrev c14_14 : AC := .loop c14_13
abbrev c14_15 : AC := .block 0 c14_14
abbrev c14_16 : AC := .seq c14_3 c14_15
abbrev c14_17 : AC := .seq c14_2 c14_16
abbrev c14_18 : AC := .seq c14_1 c14_17
abbrev c14 : AC := c14_18
theorem code14 : fnCode Try.prog 14 = some (c14, [4, 5], 22) := by kernel_rfl
/- coinage/coloring.Number -/
abbrev c7_1 : AC := .reg [⟨(some 4), .mv (.k (.I 0)), none⟩,
  ⟨(some 5), .mv (.k (.I 0)), none⟩] false
abbrev c7_2 : AC := .reg [⟨(some 8), .mv (.t 0), none⟩,
  ⟨(some 9), .mv (.t 1), none⟩,
  ⟨(some 10), .call 13 [(.t 8), (.t 9)], none⟩,
  ⟨(some 11), .not (.t 10), none⟩] false
abbrev c7_3 : AC := .reg [⟨(some 4), .mv (.k (.I 0)), none⟩,
  ⟨(some 5), .mv (.k (.I 1)), none⟩] false
abbrev c7_4 : AC := .seq c7_3 .ret
abbrev c7_5 : AC := .cond (.t 11) c7_4 .skip
abbrev c7_6 : AC := .seq c7_2 c7_5
abbrev c7_7 : AC := .reg [⟨(some 13), .mv (.t 0), none⟩,
  ⟨(some 14), .mv (.t 1), none⟩,
  ⟨(some 15), .call 14 [(.t 13), (.t 14)], none⟩,
  ⟨(some 12), .mv (.t 15), none⟩,
  ⟨(some 16), .ext (.t 12) 0, none⟩,
  ⟨(some 17), .ext (.t 12) 1, none⟩,
  ⟨(some 6), .mv (.t 16), none⟩,
  ⟨(some 7), .mv (.t 17), none⟩] false
abbrev c7_8 : AC := .reg [⟨(some 18), .mv (.t 7), none⟩,
  ⟨(some 4), .mv (.t 18), none⟩,
  ⟨(some 5), .mv (.k (.I 0)), none⟩] false
abbrev c7_9 : AC := .seq c7_8 .ret
abbrev c7_10 : AC := .seq c7_7 c7_9
abbrev c7_11 : AC := .seq c7_6 c7_10
abbrev c7_12 : AC := .seq c7_1 c7_11
abbrev c7 : AC := c7_12
theorem code7 : fnCode Try.prog 7 = some (c7, [4, 5], 19) := by kernel_rfl

theorem x31 (u v x : Nat) (c : List Nat) (hv : v ≤ c.length) : FnR Try.prog 31 [.I (u : Int), .dptr [.I (v : Int)], .dptr [NR c], .dptr [.I (x : Int)]] [.c (.B (decide (u < v) && decide (nth c u = x)))] := by
  have e1 : decide (u < v) = decide ((u : Int) < (v : Int)) := by rw [decide_eq_decide]; omega
  have e2 : decide (nth c u = x) = decide (((nth c u : Nat) : Int) = (x : Int)) := by rw [decide_eq_decide]; omega
  rw [e1, e2]
  refine fn_walk code31 (by simp) ?_
  by_cases h : u < v
  · have hge := getD_map nc c u [] (by omega)
    have hkk : ((u : Int) < (v : Int)) = True := eq_true (by omega)
    have hcl : (u : Int) < (c.length : Int) := by omega
    (repeat' (first | refine NextAt.mk (fun hc => ?_) (fun pre n v post hc hkey => ?_) | refine Sni.mk (fun hc => ?_) ?_ | refine Both.mk ?_ ?_ | refine AW_seq ?_ | refine AW_block ?_ | ((first | refine AW_reg ?_ | refine AW_cond ?_ | refine AW_skip ?_ | refine AW_exit ?_ | refine AW_ret ?_ | refine AW_regD (by kernel_rfl) ?_ | refine AW_regX (by kernel_rfl) ?_ | refine CallAtG.t (Eq.refl true) ?_ | refine CallAtG.f (Eq.refl false) ?_); try simp (disch := omega) only [go_sem, seval, reduceCtorEq, ↓reduceIte, beq_dec, Int.toNat_natCast, IntKind.signed, IntKind.bits, hge, nc, Int.toNat_natCast, List.length_map, hkk, hcl]) | refine And.intro (fun hc => (?_ : AW _ _ _ _)) (fun hc => (?_ : AW _ _ _ _)) | simp (disch := omega) only [go_sem, seval, reduceCtorEq, ↓reduceIte, beq_dec, Int.toNat_natCast, IntKind.signed, IntKind.bits, hge, nc, Int.toNat_natCast, List.length_map, hkk, hcl] | (refine And.intro ?_ ?_; focus (first | (intros; omega) | (intros; simp_all; done))) | refine And.intro (?_ : CallAt _ _ _ _ _ _ _ _) ?_ | refine And.intro (?_ : CallAt _ _ _ _ _ _ _ _ ∧ _) ?_ | refine And.intro (?_ : AW _ _ _ _) ?_ | fail))
  · have hkk : ((u : Int) < (v : Int)) = False := eq_false (by omega)
    rcases Nat.lt_or_ge u c.length with h2 | h2
    · have hge := getD_map nc c u [] h2
      (repeat' (first | refine NextAt.mk (fun hc => ?_) (fun pre n v post hc hkey => ?_) | refine Sni.mk (fun hc => ?_) ?_ | refine Both.mk ?_ ?_ | refine AW_seq ?_ | refine AW_block ?_ | ((first | refine AW_reg ?_ | refine AW_cond ?_ | refine AW_skip ?_ | refine AW_exit ?_ | refine AW_ret ?_ | refine AW_regD (by kernel_rfl) ?_ | refine AW_regX (by kernel_rfl) ?_ | refine CallAtG.t (Eq.refl true) ?_ | refine CallAtG.f (Eq.refl false) ?_); try simp (disch := omega) only [go_sem, seval, reduceCtorEq, ↓reduceIte, beq_dec, Int.toNat_natCast, IntKind.signed, IntKind.bits, hge, nc, Int.toNat_natCast, List.length_map, hkk]) | refine And.intro (fun hc => (?_ : AW _ _ _ _)) (fun hc => (?_ : AW _ _ _ _)) | simp (disch := omega) only [go_sem, seval, reduceCtorEq, ↓reduceIte, beq_dec, Int.toNat_natCast, IntKind.signed, IntKind.bits, hge, nc, Int.toNat_natCast, List.length_map, hkk] | (refine And.intro ?_ ?_; focus (first | (intros; omega) | (intros; simp_all; done))) | refine And.intro (?_ : CallAt _ _ _ _ _ _ _ _) ?_ | refine And.intro (?_ : CallAt _ _ _ _ _ _ _ _ ∧ _) ?_ | refine And.intro (?_ : AW _ _ _ _) ?_ | fail))
    · have hge := getD_map_ge nc c u [] h2
      (repeat' (first | refine NextAt.mk (fun hc => ?_) (fun pre n v post hc hkey => ?_) | refine Sni.mk (fun hc => ?_) ?_ | refine Both.mk ?_ ?_ | refine AW_seq ?_ | refine AW_block ?_ | ((first | refine AW_reg ?_ | refine AW_cond ?_ | refine AW_skip ?_ | refine AW_exit ?_ | refine AW_ret ?_ | refine AW_regD (by kernel_rfl) ?_ | refine AW_regX (by kernel_rfl) ?_ | refine CallAtG.t (Eq.refl true) ?_ | refine CallAtG.f (Eq.refl false) ?_); try simp (disch := omega) only [go_sem, seval, reduceCtorEq, ↓reduceIte, beq_dec, Int.toNat_natCast, IntKind.signed, IntKind.bits, hge, nc, Int.toNat_natCast, List.length_map, hkk, List.map_nil, List.headD_nil]) | refine And.intro (fun hc => (?_ : AW _ _ _ _)) (fun hc => (?_ : AW _ _ _ _)) | simp (disch := omega) only [go_sem, seval, reduceCtorEq, ↓reduceIte, beq_dec, Int.toNat_natCast, IntKind.signed, IntKind.bits, hge, nc, Int.toNat_natCast, List.length_map, hkk, List.map_nil, List.headD_nil] | (refine And.intro ?_ ?_; focus (first | (intros; omega) | (intros; simp_all; done))) | refine And.intro (?_ : CallAt _ _ _ _ _ _ _ _) ?_ | refine And.intro (?_ : CallAt _ _ _ _ _ _ _ _ ∧ _) ?_ | refine And.intro (?_ : AW _ _ _ _) ?_ | fail))
/-- the first place that answers -/
theorem first_at (p : Nat → Bool) (l : List Nat) : (l.any p = false ∧ ∀ i, i < l.length → p (nth l i) = false) ∨ (l.any p = true ∧ ∃ k, k < l.length ∧ p (nth l k) = true ∧ ∀ i, i < k → p (nth l i) = false) := by
  induction l with
  | nil => left; simp
  | cons a r ih =>
    cases ha : p a with
    | true => right; exact ⟨by simp [ha], 0, by simp, ha, fun i hi => by omega⟩
    | false =>
      rcases ih with ⟨h1, h2⟩ | ⟨h1, k, h2, h3, h4⟩
      · left
        refine ⟨by simp [ha, h1], fun i hi => ?_⟩
        cases i with
        | zero => exact ha
        | succ i => exact h2 i (by simpa using hi)
      · right
        refine ⟨by simp [ha, h1], k + 1, by simp; omega, h3, fun i hi => ?_⟩
        cases i with
        | zero => exact ha
        | succ i => exact h4 i (by omega)
abbrev cap31 (v x : Nat) (c : List Nat) : AV := .fn 31 [.dptr [.I (v : Int)], .dptr [NR c], .dptr [.I (x : Int)]]
theorem x18c (l : List Nat) (hl : l.length ≤ 1000) (v x : Nat) (c : List Nat) (hv : v ≤ c.length) : FnR Try.prog 18 [.c (NR l), cap31 v x c] [.c (.B (l.any fun u => decide (u < v) && decide (nth c u = x)))] := by
  rcases first_at (fun u => decide (u < v) && decide (nth c u = x)) l with ⟨h1, h2⟩ | ⟨h1, k, h2, h3, h4⟩
  · rw [h1]
    have g26 : FnR Try.prog 26 [.c (NR l), cap31 v x c] [.c (.I (-1))] := by
      refine fn_walk code26 (by simp) ?_
      (repeat' (first | refine NextAt.mk (fun hc => ?_) (fun pre n v post hc hkey => ?_) | refine Sni.mk (fun hc => ?_) ?_ | refine Both.mk ?_ ?_ | refine AW_seq ?_ | refine AW_block ?_ | ((first | refine AW_reg ?_ | refine AW_cond ?_ | refine AW_skip ?_ | refine AW_exit ?_ | refine AW_ret ?_ | refine AW_regD (by kernel_rfl) ?_ | refine AW_regX (by kernel_rfl) ?_ | refine CallAtG.t (Eq.refl true) ?_ | refine CallAtG.f (Eq.refl false) ?_); try simp (disch := omega) only [go_sem, seval, reduceCtorEq, ↓reduceIte, beq_dec, Int.toNat_natCast, IntKind.signed, IntKind.bits]) | refine And.intro (fun hc => (?_ : AW _ _ _ _)) (fun hc => (?_ : AW _ _ _ _)) | simp (disch := omega) only [go_sem, seval, reduceCtorEq, ↓reduceIte, beq_dec, Int.toNat_natCast, IntKind.signed, IntKind.bits] | (refine And.intro ?_ ?_; focus (first | (intros; omega) | (intros; simp_all; done))) | refine And.intro (?_ : CallAt _ _ _ _ _ _ _ _) ?_ | refine And.intro (?_ : CallAt _ _ _ _ _ _ _ _ ∧ _) ?_ | refine And.intro (?_ : AW _ _ _ _) ?_ | fail))
      refine AW_loopK [0, 1, 7] [4, 5, 8, 9, 10, 11, 12, 13, 14, 15, 16, 17, 18] (fun i : Nat => i ≤ l.length) (fun i => [(8, .I i)]) (fun _ => []) (fun i => l.length - i) 0 (by omega) ?_ ?_
      · simp (disch := omega) only [go_sem, seval, reduceCtorEq, ↓reduceIte, beq_dec, Int.toNat_natCast, IntKind.signed, IntKind.bits, Int.natCast_zero]
      · intro i hi
        rcases Nat.lt_or_ge i l.length with hil | hil
        · have g := x31 (nth l i) v x c hv
          rw [h2 i hil] at g
          have hge := getD_map nc l i [] hil
          have hkk : ((i : Int) < (l.length : Int)) = True := eq_true (by omega)
          (repeat' (first | refine NextAt.mk (fun hc => ?_) (fun pre n v post hc hkey => ?_) | refine Sni.mk (fun hc => ?_) ?_ | refine Both.mk ?_ ?_ | refine AW_seq ?_ | refine AW_block ?_ | ((first | refine AW_reg ?_ | refine AW_cond ?_ | refine AW_skip ?_ | refine AW_exit ?_ | refine AW_ret ?_ | refine AW_regD (by kernel_rfl) ?_ | refine AW_regX (by kernel_rfl) ?_ | refine CallAtG.t (Eq.refl true) ?_ | refine CallAtG.f (Eq.refl false) ?_ | refine CallAt.mk _ (g ..) (by first | (intro h; cases h; done) | (intro _; repeat' (first | exact List.forall_mem_nil _ | trivial | refine List.forall_mem_cons.2 ⟨?_, ?_⟩)) | (intro _; simp [RV.flatP, CD.flatP, hge, nc, Int.toNat_natCast, List.length_map, hkk]; done)) ?_ | refine CallAtG.mk _ (fun _ => g ..) ?_ | refine CallDS.mk _ (by simp [RV.data]) (fun _ => g ..) (by first | (intro h; cases h; done) | (intro _; repeat' (first | exact List.forall_mem_nil _ | trivial | refine List.forall_mem_cons.2 ⟨?_, ?_⟩)) | (intro _; simp [RV.flatP, CD.flatP, hge, nc, Int.toNat_natCast, List.length_map, hkk]; done)) ?_); try simp (disch := omega) only [go_sem, seval, reduceCtorEq, ↓reduceIte, beq_dec, Int.toNat_natCast, IntKind.signed, IntKind.bits, hge, nc, Int.toNat_natCast, List.length_map, hkk]) | refine And.intro (fun hc => (?_ : AW _ _ _ _)) (fun hc => (?_ : AW _ _ _ _)) | simp (disch := omega) only [go_sem, seval, reduceCtorEq, ↓reduceIte, beq_dec, Int.toNat_natCast, IntKind.signed, IntKind.bits, hge, nc, Int.toNat_natCast, List.length_map, hkk] | (refine And.intro ?_ ?_; focus (first | (intros; omega) | (intros; simp_all; done))) | refine And.intro (?_ : CallAt _ _ _ _ _ _ _ _) ?_ | refine And.intro (?_ : CallAt _ _ _ _ _ _ _ _ ∧ _) ?_ | refine And.intro (?_ : AW _ _ _ _) ?_ | fail))
          refine .mk (i + 1) (by omega) (by omega) ?_
          simp (disch := omega) only [go_sem, seval, reduceCtorEq, ↓reduceIte, beq_dec, Int.toNat_natCast, IntKind.signed, IntKind.bits, Int.natCast_add, Int.natCast_one]
        · obtain rfl : i = l.length := by omega
          have hkk : ((l.length : Int) < (l.length : Int)) = False := eq_false (by omega)
          (repeat' (first | refine NextAt.mk (fun hc => ?_) (fun pre n v post hc hkey => ?_) | refine Sni.mk (fun hc => ?_) ?_ | refine Both.mk ?_ ?_ | refine AW_seq ?_ | refine AW_block ?_ | ((first | refine AW_reg ?_ | refine AW_cond ?_ | refine AW_skip ?_ | refine AW_exit ?_ | refine AW_ret ?_ | refine AW_regD (by kernel_rfl) ?_ | refine AW_regX (by kernel_rfl) ?_ | refine CallAtG.t (Eq.refl true) ?_ | refine CallAtG.f (Eq.refl false) ?_); try simp (disch := omega) only [go_sem, seval, reduceCtorEq, ↓reduceIte, beq_dec, Int.toNat_natCast, IntKind.signed, IntKind.bits, List.length_map, hkk]) | refine And.intro (fun hc => (?_ : AW _ _ _ _)) (fun hc => (?_ : AW _ _ _ _)) | simp (disch := omega) only [go_sem, seval, reduceCtorEq, ↓reduceIte, beq_dec, Int.toNat_natCast, IntKind.signed, IntKind.bits, List.length_map, hkk] | (refine And.intro ?_ ?_; focus (first | (intros; omega) | (intros; simp_all; done))) | refine And.intro (?_ : CallAt _ _ _ _ _ _ _ _) ?_ | refine And.intro (?_ : CallAt _ _ _ _ _ _ _ _ ∧ _) ?_ | refine And.intro (?_ : AW _ _ _ _) ?_ | fail))
    refine fn_walk code18 (by simp) ?_
    (repeat' (first | refine NextAt.mk (fun hc => ?_) (fun pre n v post hc hkey => ?_) | refine Sni.mk (fun hc => ?_) ?_ | refine Both.mk ?_ ?_ | refine AW_seq ?_ | refine AW_block ?_ | ((first | refine AW_reg ?_ | refine AW_cond ?_ | refine AW_skip ?_ | refine AW_exit ?_ | refine AW_ret ?_ | refine AW_regD (by kernel_rfl) ?_ | refine AW_regX (by kernel_rfl) ?_ | refine CallAtG.t (Eq.refl true) ?_ | refine CallAtG.f (Eq.refl false) ?_ | refine CallAt.mk _ (g26 ..) (by first | (intro h; cases h; done) | (intro _; repeat' (first | exact List.forall_mem_nil _ | trivial | refine List.forall_mem_cons.2 ⟨?_, ?_⟩)) | (intro _; simp [RV.flatP, CD.flatP]; done)) ?_ | refine CallAtG.mk _ (fun _ => g26 ..) ?_ | refine CallDS.mk _ (by simp [RV.data]) (fun _ => g26 ..) (by first | (intro h; cases h; done) | (intro _; repeat' (first | exact List.forall_mem_nil _ | trivial | refine List.forall_mem_cons.2 ⟨?_, ?_⟩)) | (intro _; simp [RV.flatP, CD.flatP]; done)) ?_); try simp (disch := omega) only [go_sem, seval, reduceCtorEq, ↓reduceIte, beq_dec, Int.toNat_natCast, IntKind.signed, IntKind.bits]) | refine And.intro (fun hc => (?_ : AW _ _ _ _)) (fun hc => (?_ : AW _ _ _ _)) | simp (disch := omega) only [go_sem, seval, reduceCtorEq, ↓reduceIte, beq_dec, Int.toNat_natCast, IntKind.signed, IntKind.bits] | (refine And.intro ?_ ?_; focus (first | (intros; omega) | (intros; simp_all; done))) | refine And.intro (?_ : CallAt _ _ _ _ _ _ _ _) ?_ | refine And.intro (?_ : CallAt _ _ _ _ _ _ _ _ ∧ _) ?_ | refine And.intro (?_ : AW _ _ _ _) ?_ | fail))
  · rw [h1]
    have g26 : FnR Try.prog 26 [.c (NR l), cap31 v x c] [.c (.I (k : Int))] := by
      refine fn_walk code26 (by simp) ?_
      (repeat' (first | refine NextAt.mk (fun hc => ?_) (fun pre n v post hc hkey => ?_) | refine Sni.mk (fun hc => ?_) ?_ | refine Both.mk ?_ ?_ | refine AW_seq ?_ | refine AW_block ?_ | ((first | refine AW_reg ?_ | refine AW_cond ?_ | refine AW_skip ?_ | refine AW_exit ?_ | refine AW_ret ?_ | refine AW_regD (by kernel_rfl) ?_ | refine AW_regX (by kernel_rfl) ?_ | refine CallAtG.t (Eq.refl true) ?_ | refine CallAtG.f (Eq.refl false) ?_); try simp (disch := omega) only [go_sem, seval, reduceCtorEq, ↓reduceIte, beq_dec, Int.toNat_natCast, IntKind.signed, IntKind.bits]) | refine And.intro (fun hc => (?_ : AW _ _ _ _)) (fun hc => (?_ : AW _ _ _ _)) | simp (disch := omega) only [go_sem, seval, reduceCtorEq, ↓reduceIte, beq_dec, Int.toNat_natCast, IntKind.signed, IntKind.bits] | (refine And.intro ?_ ?_; focus (first | (intros; omega) | (intros; simp_all; done))) | refine And.intro (?_ : CallAt _ _ _ _ _ _ _ _) ?_ | refine And.intro (?_ : CallAt _ _ _ _ _ _ _ _ ∧ _) ?_ | refine And.intro (?_ : AW _ _ _ _) ?_ | fail))
      refine AW_loopK [0, 1, 7] [4, 5, 8, 9, 10, 11, 12, 13, 14, 15, 16, 17, 18] (fun i : Nat => i ≤ k) (fun i => [(8, .I i)]) (fun _ => []) (fun i => l.length - i) 0 (by omega) ?_ ?_
      · simp (disch := omega) only [go_sem, seval, reduceCtorEq, ↓reduceIte, beq_dec, Int.toNat_natCast, IntKind.signed, IntKind.bits, Int.natCast_zero]
      · intro i hi
        have hil : i < l.length := by omega
        have g := x31 (nth l i) v x c hv
        have hge := getD_map nc l i [] hil
        have hkk : ((i : Int) < (l.length : Int)) = True := eq_true (by omega)
        rcases Nat.lt_or_ge i k with hik | hik
        · rw [h4 i hik] at g
          (repeat' (first | refine NextAt.mk (fun hc => ?_) (fun pre n v post hc hkey => ?_) | refine Sni.mk (fun hc => ?_) ?_ | refine Both.mk ?_ ?_ | refine AW_seq ?_ | refine AW_block ?_ | ((first | refine AW_reg ?_ | refine AW_cond ?_ | refine AW_skip ?_ | refine AW_exit ?_ | refine AW_ret ?_ | refine AW_regD (by kernel_rfl) ?_ | refine AW_regX (by kernel_rfl) ?_ | refine CallAtG.t (Eq.refl true) ?_ | refine CallAtG.f (Eq.refl false) ?_ | refine CallAt.mk _ (g ..) (by first | (intro h; cases h; done) | (intro _; repeat' (first | exact List.forall_mem_nil _ | trivial | refine List.forall_mem_cons.2 ⟨?_, ?_⟩)) | (intro _; simp [RV.flatP, CD.flatP, hge, nc, Int.toNat_natCast, List.length_map, hkk]; done)) ?_ | refine CallAtG.mk _ (fun _ => g ..) ?_ | refine CallDS.mk _ (by simp [RV.data]) (fun _ => g ..) (by first | (intro h; cases h; done) | (intro _; repeat' (first | exact List.forall_mem_nil _ | trivial | refine List.forall_mem_cons.2 ⟨?_, ?_⟩)) | (intro _; simp [RV.flatP, CD.flatP, hge, nc, Int.toNat_natCast, List.length_map, hkk]; done)) ?_); try simp (disch := omega) only [go_sem, seval, reduceCtorEq, ↓reduceIte, beq_dec, Int.toNat_natCast, IntKind.signed, IntKind.bits, hge, nc, Int.toNat_natCast, List.length_map, hkk]) | refine And.intro (fun hc => (?_ : AW _ _ _ _)) (fun hc => (?_ : AW _ _ _ _)) | simp (disch := omega) only [go_sem, seval, reduceCtorEq, ↓reduceIte, beq_dec, Int.toNat_natCast, IntKind.signed, IntKind.bits, hge, nc, Int.toNat_natCast, List.length_map, hkk] | (refine And.intro ?_ ?_; focus (first | (intros; omega) | (intros; simp_all; done))) | refine And.intro (?_ : CallAt _ _ _ _ _ _ _ _) ?_ | refine And.intro (?_ : CallAt _ _ _ _ _ _ _ _ ∧ _) ?_ | refine And.intro (?_ : AW _ _ _ _) ?_ | fail))
          refine .mk (i + 1) (by omega) (by omega) ?_
          simp (disch := omega) only [go_sem, seval, reduceCtorEq, ↓reduceIte, beq_dec, Int.toNat_natCast, IntKind.signed, IntKind.bits, Int.natCast_add, Int.natCast_one]
        · obtain rfl : i = k := by omega
          rw [h3] at g
          (repeat' (first | refine NextAt.mk (fun hc => ?_) (fun pre n v post hc hkey => ?_) | refine Sni.mk (fun hc => ?_) ?_ | refine Both.mk ?_ ?_ | refine AW_seq ?_ | refine AW_block ?_ | ((first | refine AW_reg ?_ | refine AW_cond ?_ | refine AW_skip ?_ | refine AW_exit ?_ | refine AW_ret ?_ | refine AW_regD (by kernel_rfl) ?_ | refine AW_regX (by kernel_rfl) ?_ | refine CallAtG.t (Eq.refl true) ?_ | refine CallAtG.f (Eq.refl false) ?_ | refine CallAt.mk _ (g ..) (by first | (intro h; cases h; done) | (intro _; repeat' (first | exact List.forall_mem_nil _ | trivial | refine List.forall_mem_cons.2 ⟨?_, ?_⟩)) | (intro _; simp [RV.flatP, CD.flatP, hge, nc, Int.toNat_natCast, List.length_map, hkk]; done)) ?_ | refine CallAtG.mk _ (fun _ => g ..) ?_ | refine CallDS.mk _ (by simp [RV.data]) (fun _ => g ..) (by first | (intro h; cases h; done) | (intro _; repeat' (first | exact List.forall_mem_nil _ | trivial | refine List.forall_mem_cons.2 ⟨?_, ?_⟩)) | (intro _; simp [RV.flatP, CD.flatP, hge, nc, Int.toNat_natCast, List.length_map, hkk]; done)) ?_); try simp (disch := omega) only [go_sem, seval, reduceCtorEq, ↓reduceIte, beq_dec, Int.toNat_natCast, IntKind.signed, IntKind.bits, hge, nc, Int.toNat_natCast, List.length_map, hkk]) | refine And.intro (fun hc => (?_ : AW _ _ _ _)) (fun hc => (?_ : AW _ _ _ _)) | simp (disch := omega) only [go_sem, seval, reduceCtorEq, ↓reduceIte, beq_dec, Int.toNat_natCast, IntKind.signed, IntKind.bits, hge, nc, Int.toNat_natCast, List.length_map, hkk] | (refine And.intro ?_ ?_; focus (first | (intros; omega) | (intros; simp_all; done))) | refine And.intro (?_ : CallAt _ _ _ _ _ _ _ _) ?_ | refine And.intro (?_ : CallAt _ _ _ _ _ _ _ _ ∧ _) ?_ | refine And.intro (?_ : AW _ _ _ _) ?_ | fail))
    refine fn_walk code18 (by simp) ?_
    (repeat' (first | refine NextAt.mk (fun hc => ?_) (fun pre n v post hc hkey => ?_) | refine Sni.mk (fun hc => ?_) ?_ | refine Both.mk ?_ ?_ | refine AW_seq ?_ | refine AW_block ?_ | ((first | refine AW_reg ?_ | refine AW_cond ?_ | refine AW_skip ?_ | refine AW_exit ?_ | refine AW_ret ?_ | refine AW_regD (by kernel_rfl) ?_ | refine AW_regX (by kernel_rfl) ?_ | refine CallAtG.t (Eq.refl true) ?_ | refine CallAtG.f (Eq.refl false) ?_ | refine CallAt.mk _ (g26 ..) (by first | (intro h; cases h; done) | (intro _; repeat' (first | exact List.forall_mem_nil _ | trivial | refine List.forall_mem_cons.2 ⟨?_, ?_⟩)) | (intro _; simp [RV.flatP, CD.flatP]; done)) ?_ | refine CallAtG.mk _ (fun _ => g26 ..) ?_ | refine CallDS.mk _ (by simp [RV.data]) (fun _ => g26 ..) (by first | (intro h; cases h; done) | (intro _; repeat' (first | exact List.forall_mem_nil _ | trivial | refine List.forall_mem_cons.2 ⟨?_, ?_⟩)) | (intro _; simp [RV.flatP, CD.flatP]; done)) ?_); try simp (disch := omega) only [go_sem, seval, reduceCtorEq, ↓reduceIte, beq_dec, Int.toNat_natCast, IntKind.signed, IntKind.bits]) | refine And.intro (fun hc => (?_ : AW _ _ _ _)) (fun hc => (?_ : AW _ _ _ _)) | simp (disch := omega) only [go_sem, seval, reduceCtorEq, ↓reduceIte, beq_dec, Int.toNat_natCast, IntKind.signed, IntKind.bits] | (refine And.intro ?_ ?_; focus (first | (intros; omega) | (intros; simp_all; done))) | refine And.intro (?_ : CallAt _ _ _ _ _ _ _ _) ?_ | refine And.intro (?_ : CallAt _ _ _ _ _ _ _ _ ∧ _) ?_ | refine And.intro (?_ : AW _ _ _ _) ?_ | fail))
    all_goals first | rfl | omega | (simp; done) | trace_state
end Go.Proofs.Ytggcpnnmmcnogaa

-- P p_b.txt
open Go Go.AL Go.RowKit
namespace Go.Proofs.Ytggcpnnmmcnogaa
set_option maxRecDepth 20000
def colV : Option (List Nat) → CD
  | some c => NR c
  | none => .nil
theorem colN_len (G : List (List Nat)) (k : Nat) : ∀ f c c', colN G k f c = some c' → c'.length = c.length + f
  | 0, c, c', h => by simp only [colN, Option.some.injEq] at h; subst h; rfl
  | f + 1, c, c', h => by
    simp only [colN] at h
    obtain ⟨x, hx, hv⟩ := List.exists_of_findSome?_eq_some h
    split at hv
    · cases hv
    · have := colN_len G k f _ _ hv
      simp at this; omega
def in25 (G : List (List Nat)) (k : Nat) (c : List Nat) (x m : Nat) : St := ⟨58, [(0, .c (TN G)), (2, .I (k : Int)), (4, .ptr 4 0), (7, .ptr 7 0), (11, .ptr 11 0), (34, .I (m : Int)), (35, .I (x : Int))], [(4, .box 31 [.c (NR c)]), (7, .box 3 [.I (c.length : Int)]), (11, .box 3 [.I (x : Int)])]⟩
def ou25 (G : List (List Nat)) (k : Nat) (c : List Nat) (x m : Nat) (D : CD) : St := ⟨58, [(0, .c (TN G)), (2, .I (k : Int)), (4, .ptr 4 0), (7, .ptr 7 0), (12, .c D), (34, .I (m : Int)), (35, .I (x : Int))], [(4, .box 31 [.c (NR c)]), (7, .box 3 [.I (c.length : Int)])]⟩
theorem take_nc (c : List Nat) : (c.map nc).take c.length = c.map nc := by rw [← List.map_take, List.take_length]
theorem snoc_nc (c : List Nat) (x : Nat) : c.map nc ++ [[.I (x : Int)]] = (c ++ [x]).map nc := by simp
set_option maxHeartbeats 40000000 in
theorem r25 (G : List (List Nat)) (k : Nat) (c : List Nat) (x m : Nat) (D : CD) (hc : c.length ≤ 1000) (g : FnR Try.prog 25 [.c (TN G), .c (NR (c ++ [x])), .I (k : Int)] [.c D]) : AW Try.prog c25_30 (cutQ (ou25 G k c x m D)) (in25 G k c x m) := by
  refine AW_regX (by kernel_rfl) ?_
  unfold in25
  (repeat' (first | refine NextAt.mk (fun hc => ?_) (fun pre n v post hc hkey => ?_) | refine Sni.mk (fun hc => ?_) ?_ | refine Both.mk ?_ ?_ | refine AW_seq ?_ | refine AW_block ?_ | ((first | refine AW_reg ?_ | refine AW_cond ?_ | refine AW_skip ?_ | refine AW_exit ?_ | refine AW_ret ?_ | refine AW_regD (by kernel_rfl) ?_ | refine AW_regX (by kernel_rfl) ?_ | refine CallAtG.t (Eq.refl true) ?_ | refine CallAtG.f (Eq.refl false) ?_); try simp (maxSteps := 5000000) (disch := omega) only [go_sem, seval, reduceCtorEq, ↓reduceIte, beq_dec, Int.toNat_natCast, IntKind.signed, IntKind.bits, Int.toNat_natCast, List.length_map, maxLen, take_nc, snoc_nc]) | refine And.intro (fun hc => (?_ : AW _ _ _ _)) (fun hc => (?_ : AW _ _ _ _)) | simp (maxSteps := 5000000) (disch := omega) only [go_sem, seval, reduceCtorEq, ↓reduceIte, beq_dec, Int.toNat_natCast, IntKind.signed, IntKind.bits, Int.toNat_natCast, List.length_map, maxLen, take_nc, snoc_nc] | (refine And.intro ?_ ?_; focus (first | (intros; omega) | (intros; simp_all; done))) | refine And.intro (?_ : CallAt _ _ _ _ _ _ _ _) ?_ | refine And.intro (?_ : CallAt _ _ _ _ _ _ _ _ ∧ _) ?_ | refine And.intro (?_ : AW _ _ _ _) ?_ | fail))
  repeat' apply And.intro
  all_goals first | omega | assumption | skip
  all_goals (
    refine CallAt.frz [51] ?_
    simp (disch := omega) only [go_sem, seval, reduceCtorEq, ↓reduceIte, beq_dec, Int.toNat_natCast, IntKind.signed, IntKind.bits])
  all_goals ((repeat' (first | refine NextAt.mk (fun hc => ?_) (fun pre n v post hc hkey => ?_) | refine Sni.mk (fun hc => ?_) ?_ | refine Both.mk ?_ ?_ | refine AW_seq ?_ | refine AW_block ?_ | ((first | refine AW_reg ?_ | refine AW_cond ?_ | refine AW_skip ?_ | refine AW_exit ?_ | refine AW_ret ?_ | refine AW_regD (by kernel_rfl) ?_ | refine AW_regX (by kernel_rfl) ?_ | refine CallAtG.t (Eq.refl true) ?_ | refine CallAtG.f (Eq.refl false) ?_ | refine CallAt.mk _ (g ..) (by first | (intro h; cases h; done) | (intro _; repeat' (first | exact List.forall_mem_nil _ | trivial | refine List.forall_mem_cons.2 ⟨?_, ?_⟩)) | (intro _; simp [RV.flatP, CD.flatP, ou25]; done)) ?_ | refine CallAtG.mk _ (fun _ => g ..) ?_ | refine CallDS.mk _ (by simp [RV.data]) (fun _ => g ..) (by first | (intro h; cases h; done) | (intro _; repeat' (first | exact List.forall_mem_nil _ | trivial | refine List.forall_mem_cons.2 ⟨?_, ?_⟩)) | (intro _; simp [RV.flatP, CD.flatP, ou25]; done)) ?_); try simp (disch := omega) only [go_sem, seval, reduceCtorEq, ↓reduceIte, beq_dec, Int.toNat_natCast, IntKind.signed, IntKind.bits, ou25]) | refine And.intro (fun hc => (?_ : AW _ _ _ _)) (fun hc => (?_ : AW _ _ _ _)) | simp (disch := omega) only [go_sem, seval, reduceCtorEq, ↓reduceIte, beq_dec, Int.toNat_natCast, IntKind.signed, IntKind.bits, ou25] | (refine And.intro ?_ ?_; focus (first | (intros; omega) | (intros; simp_all; done))) | refine And.intro (?_ : CallAt _ _ _ _ _ _ _ _) ?_ | refine And.intro (?_ : CallAt _ _ _ _ _ _ _ _ ∧ _) ?_ | refine And.intro (?_ : AW _ _ _ _) ?_ | fail)))
  all_goals trace_state
end Go.Proofs.Ytggcpnnmmcnogaa

-- P p_b.txt
open Go Go.AL Go.RowKit
namespace Go.Proofs.Ytggcpnnmmcnogaa
set_option maxRecDepth 20000
theorem range_find {β : Type} (g : Nat → Option β) {m x : Nat} {r : β} (h1 : ∀ y, y < x → g y = none) (hx : x < m) (h2 : g x = some r) : (List.range m).findSome? g = some r := by
  have e : List.range m = List.range x ++ (List.range (m - x)).map (x + ·) := by
    rw [← List.range_add, Nat.add_sub_cancel' (by omega)]
  rw [e, List.findSome?_append]
  have e1 : (List.range x).findSome? g = none := by
    rw [List.findSome?_eq_none_iff]
    intro y hy
    exact h1 y (List.mem_range.1 hy)
  rw [e1]
  obtain ⟨d, hd⟩ : ∃ d, m - x = d + 1 := ⟨m - x - 1, by omega⟩
  rw [hd, List.range_succ_eq_map]
  simp [h2]
theorem range_none {β : Type} (g : Nat → Option β) {m : Nat} (h1 : ∀ y, y < m → g y = none) : (List.range m).findSome? g = none := by
  rw [List.findSome?_eq_none_iff]
  intro y hy
  exact h1 y (List.mem_range.1 hy)
theorem usedN_le {c : List Nat} {b : Nat} (h : ∀ x ∈ c, x < b) : usedN c ≤ b := by
  induction c with
  | nil => simp [usedN]
  | cons a r ih =>
    have e : usedN (a :: r) = max (a + 1) (usedN r) := by
      show List.foldl _ (max 0 (a + 1)) r = _
      rw [foldl_used]; omega
    have := ih fun x hx => h x (by simp [hx])
    have := h a (by simp)
    omega
theorem usedN_take (c : List Nat) (i : Nat) (h : i < c.length) : usedN (c.take (i + 1)) = max (usedN (c.take i)) (nth c i + 1) := by
  rw [List.take_succ_eq_append_getElem h, usedN_snoc, nth_eq c i h]
theorem hold25 {Q : Exit → St → Prop} {σ : St} (h : Hold (AW Try.prog c25_30 Q σ)) : AW Try.prog c25_30 Q σ := h.out
set_option maxHeartbeats 8000000 in
theorem x25 (G : List (List Nat)) (n : Nat) (hG : G.length = n) (hn : n ≤ 12) (hn0 : 0 < n) (hrow : ∀ v, (G.getD v []).length ≤ 1000) (k : Nat) (hk : k ≤ 100) :
    ∀ f c, c.length + f = n → (∀ x ∈ c, x < 100) → FnR Try.prog 25 [.c (TN G), .c (NR c), .I (k : Int)] [.c (colV (colN G k f c))]
  | 0, c, hl, hc => by
    have hcn : ((c.length : Int) = (G.length : Int)) = True := eq_true (by omega)
    refine fn_walk code25 (by simp) ?_
    (repeat' (first | refine NextAt.mk (fun hc => ?_) (fun pre n v post hc hkey => ?_) | refine Sni.mk (fun hc => ?_) ?_ | refine Both.mk ?_ ?_ | refine AW_seq ?_ | refine AW_block ?_ | ((first | refine AW_reg ?_ | refine AW_cond ?_ | refine AW_skip ?_ | refine AW_exit ?_ | refine AW_ret ?_ | refine AW_regD (by kernel_rfl) ?_ | refine AW_regX (by kernel_rfl) ?_ | refine CallAtG.t (Eq.refl true) ?_ | refine CallAtG.f (Eq.refl false) ?_); try simp (disch := omega) only [go_sem, seval, reduceCtorEq, ↓reduceIte, beq_dec, Int.toNat_natCast, IntKind.signed, IntKind.bits, List.length_map, hcn]) | refine And.intro (fun hc => (?_ : AW _ _ _ _)) (fun hc => (?_ : AW _ _ _ _)) | simp (disch := omega) only [go_sem, seval, reduceCtorEq, ↓reduceIte, beq_dec, Int.toNat_natCast, IntKind.signed, IntKind.bits, List.length_map, hcn] | (refine And.intro ?_ ?_; focus (first | (intros; omega) | (intros; simp_all; done))) | refine And.intro (?_ : CallAt _ _ _ _ _ _ _ _) ?_ | refine And.intro (?_ : CallAt _ _ _ _ _ _ _ _ ∧ _) ?_ | refine And.intro (?_ : AW _ _ _ _) ?_ | fail))
    rfl
  | f + 1, c, hl, hc => by
    have hcn : ((c.length : Int) = (G.length : Int)) = False := eq_false (by omega)
    have hcl : c.length < G.length := by omega
    have hgG : (G.map fun r => [NR r]).getD c.length [] = [NR (G.getD c.length [])] := getD_map (fun r : List Nat => [NR r]) G c.length [] hcl
    have hcG : ((c.length : Int) < (G.length : Int)) = True := eq_true (by omega)
    obtain ⟨D0, hD0⟩ : ∃ D0, D0 = colV (colN G k (f + 1) c) := ⟨_, rfl⟩
    rw [← hD0]
    simp only [colN] at hD0
    have hU := usedN_le hc
    refine fn_walk code25 (by simp) ?_
    (repeat' (first | refine NextAt.mk (fun hc => ?_) (fun pre n v post hc hkey => ?_) | refine Sni.mk (fun hc => ?_) ?_ | refine Both.mk ?_ ?_ | refine AW_seq ?_ | refine AW_block ?_ | ((first | refine AW_reg ?_ | refine AW_cond ?_ | refine AW_skip ?_ | refine AW_exit ?_ | refine AW_ret ?_ | refine AW_regD (by kernel_rfl) ?_ | refine AW_regX (by kernel_rfl) ?_ | refine CallAtG.t (Eq.refl true) ?_ | refine CallAtG.f (Eq.refl false) ?_); try simp (disch := omega) only [go_sem, seval, reduceCtorEq, ↓reduceIte, beq_dec, Int.toNat_natCast, IntKind.signed, IntKind.bits, List.length_map, hcn]) | refine And.intro (fun hc => (?_ : AW _ _ _ _)) (fun hc => (?_ : AW _ _ _ _)) | simp (disch := omega) only [go_sem, seval, reduceCtorEq, ↓reduceIte, beq_dec, Int.toNat_natCast, IntKind.signed, IntKind.bits, List.length_map, hcn] | (refine And.intro ?_ ?_; focus (first | (intros; omega) | (intros; simp_all; done))) | refine And.intro (?_ : CallAt _ _ _ _ _ _ _ _) ?_ | refine And.intro (?_ : CallAt _ _ _ _ _ _ _ _ ∧ _) ?_ | refine And.intro (?_ : AW _ _ _ _) ?_ | fail))
    refine AW_loopK [0, 2, 4, 7, 20, 21] [8, 10, 22, 23, 24, 25, 26, 27, 28, 29, 30] (fun i : Nat => i ≤ c.length) (fun i => [(8, .I (usedN (c.take i) : Nat)), (22, .I i)]) (fun _ => [(4, .box 31 [.c (NR c)]), (7, .box 3 [.I (c.length : Int)])]) (fun i => c.length - i) 0 (by omega) ?_ ?_
    · simp (disch := omega) only [go_sem, seval, reduceCtorEq, ↓reduceIte, beq_dec, Int.toNat_natCast, IntKind.signed, IntKind.bits, Int.natCast_zero, List.take_zero, usedN, List.foldl_nil]
    · intro i hi
      rcases Nat.lt_or_ge i c.length with hil | hil
      · have hge := getD_map nc c i [] hil
        have hkk : ((i : Int) < (c.length : Int)) = True := eq_true (by omega)
        have hut := usedN_take c i hil
        have hu1 : usedN (c.take i) ≤ 100 := usedN_le fun x hx => hc x (List.mem_of_mem_take hx)
        have hx1 := hc _ (nth_mem c i hil)
        generalize usedN (c.take i) = U at *
        have hmx : max (U : Int) (((nth c i : Nat) : Int) + 1) = ((max U (nth c i + 1) : Nat) : Int) := by omega
        (repeat' (first | refine NextAt.mk (fun hc => ?_) (fun pre n v post hc hkey => ?_) | refine Sni.mk (fun hc => ?_) ?_ | refine Both.mk ?_ ?_ | refine AW_seq ?_ | refine AW_block ?_ | ((first | refine AW_reg ?_ | refine AW_cond ?_ | refine AW_skip ?_ | refine AW_exit ?_ | refine AW_ret ?_ | refine AW_regD (by kernel_rfl) ?_ | refine AW_regX (by kernel_rfl) ?_ | refine CallAtG.t (Eq.refl true) ?_ | refine CallAtG.f (Eq.refl false) ?_); try simp (disch := omega) only [go_sem, seval, reduceCtorEq, ↓reduceIte, beq_dec, Int.toNat_natCast, IntKind.signed, IntKind.bits, hge, nc, Int.toNat_natCast, List.length_map, hkk, hmx]) | refine And.intro (fun hc => (?_ : AW _ _ _ _)) (fun hc => (?_ : AW _ _ _ _)) | simp (disch := omega) only [go_sem, seval, reduceCtorEq, ↓reduceIte, beq_dec, Int.toNat_natCast, IntKind.signed, IntKind.bits, hge, nc, Int.toNat_natCast, List.length_map, hkk, hmx] | (refine And.intro ?_ ?_; focus (first | (intros; omega) | (intros; simp_all; done))) | refine And.intro (?_ : CallAt _ _ _ _ _ _ _ _) ?_ | refine And.intro (?_ : CallAt _ _ _ _ _ _ _ _ ∧ _) ?_ | refine And.intro (?_ : AW _ _ _ _) ?_ | fail))
        refine .mk (i + 1) (by omega) (by omega) ?_
        rw [hut]
        simp (disch := omega) only [go_sem, seval, reduceCtorEq, ↓reduceIte, beq_dec, Int.toNat_natCast, IntKind.signed, IntKind.bits, Int.natCast_add, Int.natCast_one]
      · obtain rfl : i = c.length := by omega
        rw [List.take_length]
        have hkk : ((c.length : Int) < (c.length : Int)) = False := eq_false (by omega)
        generalize usedN c = U at *
        have hmn : min (k : Int) ((U : Int) + 1) = ((min k (U + 1) : Nat) : Int) := by omega
        (repeat' (first | refine NextAt.mk (fun hc => ?_) (fun pre n v post hc hkey => ?_) | refine Sni.mk (fun hc => ?_) ?_ | refine Both.mk ?_ ?_ | refine AW_seq ?_ | refine AW_block ?_ | ((first | refine AW_reg ?_ | refine AW_cond ?_ | refine AW_skip ?_ | refine AW_exit ?_ | refine AW_ret ?_ | refine AW_regD (by kernel_rfl) ?_ | refine AW_regX (by kernel_rfl) ?_ | refine CallAtG.t (Eq.refl true) ?_ | refine CallAtG.f (Eq.refl false) ?_); try simp (disch := omega) only [go_sem, seval, reduceCtorEq, ↓reduceIte, beq_dec, Int.toNat_natCast, IntKind.signed, IntKind.bits, List.length_map, hkk, hmn]) | refine And.intro (fun hc => (?_ : AW _ _ _ _)) (fun hc => (?_ : AW _ _ _ _)) | simp (disch := omega) only [go_sem, seval, reduceCtorEq, ↓reduceIte, beq_dec, Int.toNat_natCast, IntKind.signed, IntKind.bits, List.length_map, hkk, hmn] | (refine And.intro ?_ ?_; focus (first | (intros; omega) | (intros; simp_all; done))) | refine And.intro (?_ : CallAt _ _ _ _ _ _ _ _) ?_ | refine And.intro (?_ : CallAt _ _ _ _ _ _ _ _ ∧ _) ?_ | refine And.intro (?_ : AW _ _ _ _) ?_ | fail))
        have hm100 : min k (U + 1) ≤ 100 := by omega
        generalize min k (U + 1) = m at *
        refine AW_loopK [0, 2, 4, 7, 34] [6, 11, 12, 35, 36, 37, 38, 39, 40, 41, 42, 43, 44, 45, 46, 47, 48, 49, 50, 51, 52, 53, 54, 55, 56, 57] (fun x : Nat => x ≤ m ∧ ∀ y, y < x → (if badN G c y then none else colN G k f (c ++ [y])) = none) (fun x => [(35, .I x)]) (fun _ => [(4, .box 31 [.c (NR c)]), (7, .box 3 [.I (c.length : Int)])]) (fun x => m - x) 0 ⟨by omega, fun y hy => by omega⟩ ?_ ?_
        · simp (disch := omega) only [go_sem, seval, reduceCtorEq, ↓reduceIte, beq_dec, Int.toNat_natCast, IntKind.signed, IntKind.bits, Int.natCast_zero]
        · rintro x ⟨hx, hprev⟩
          rcases Nat.lt_or_ge x m with hxm | hxm
          · have hkk2 : ((x : Int) < (m : Int)) = True := eq_true (by omega)
            have g18 := x18c (G.getD c.length []) (hrow _) c.length x c (Nat.le_refl _)
            change FnR Try.prog 18 _ [.c (.B (badN G c x))] at g18
            cases hb : badN G c x with
            | true =>
              rw [hb] at g18
              (repeat' (first | refine NextAt.mk (fun hc => ?_) (fun pre n v post hc hkey => ?_) | refine Sni.mk (fun hc => ?_) ?_ | refine Both.mk ?_ ?_ | refine AW_seq ?_ | refine AW_block ?_ | ((first | refine AW_reg ?_ | refine AW_cond ?_ | refine AW_skip ?_ | refine AW_exit ?_ | refine AW_ret ?_ | refine AW_regD (by kernel_rfl) ?_ | refine AW_regX (by kernel_rfl) ?_ | refine CallAtG.t (Eq.refl true) ?_ | refine CallAtG.f (Eq.refl false) ?_ | refine CallAt.mk _ (g18 ..) (by first | (intro h; cases h; done) | (intro _; repeat' (first | exact List.forall_mem_nil _ | trivial | refine List.forall_mem_cons.2 ⟨?_, ?_⟩)) | (intro _; simp [RV.flatP, CD.flatP, hgG, Int.toNat_natCast, List.length_map, hkk2, hcG]; done)) ?_ | refine CallAtG.mk _ (fun _ => g18 ..) ?_ | refine CallDS.mk _ (by simp [RV.data]) (fun _ => g18 ..) (by first | (intro h; cases h; done) | (intro _; repeat' (first | exact List.forall_mem_nil _ | trivial | refine List.forall_mem_cons.2 ⟨?_, ?_⟩)) | (intro _; simp [RV.flatP, CD.flatP, hgG, Int.toNat_natCast, List.length_map, hkk2, hcG]; done)) ?_); try simp (disch := omega) only [go_sem, seval, reduceCtorEq, ↓reduceIte, beq_dec, Int.toNat_natCast, IntKind.signed, IntKind.bits, hgG, Int.toNat_natCast, List.length_map, hkk2, hcG]) | refine And.intro (fun hc => (?_ : AW _ _ _ _)) (fun hc => (?_ : AW _ _ _ _)) | simp (disch := omega) only [go_sem, seval, reduceCtorEq, ↓reduceIte, beq_dec, Int.toNat_natCast, IntKind.signed, IntKind.bits, hgG, Int.toNat_natCast, List.length_map, hkk2, hcG] | (refine And.intro ?_ ?_; focus (first | (intros; omega) | (intros; simp_all; done))) | refine And.intro (?_ : CallAt _ _ _ _ _ _ _ _) ?_ | refine And.intro (?_ : CallAt _ _ _ _ _ _ _ _ ∧ _) ?_ | refine And.intro (?_ : AW _ _ _ _) ?_ | fail))
              refine .mk (x + 1) ⟨by omega, fun y hy => ?_⟩ (by omega) ?_
              · rcases Nat.lt_succ_iff_lt_or_eq.1 hy with hy | rfl
                · exact hprev y hy
                · rw [if_pos hb]
              · simp (disch := omega) only [go_sem, seval, reduceCtorEq, ↓reduceIte, beq_dec, Int.toNat_natCast, IntKind.signed, IntKind.bits, Int.natCast_add, Int.natCast_one]
            | false =>
              rw [hb] at g18
              have grec := x25 G n hG hn hn0 hrow k hk f (c ++ [x]) (by simp; omega) fun y hy => by
                rcases List.mem_append.1 hy with hy | hy
                · exact hc y hy
                · simp at hy; omega
              have hstep : (if badN G c x then none else colN G k f (c ++ [x])) = colN G k f (c ++ [x]) := if_neg (by rw [hb]; simp)
              cases ho : colN G k f (c ++ [x]) with
              | none =>
                rw [ho] at grec
                have hstep := hstep.trans ho
                simp only [colV] at grec
                (repeat' (first | (with_reducible refine hold25 ?_; try simp (disch := omega) only [go_sem, seval, reduceCtorEq, ↓reduceIte, beq_dec, Int.toNat_natCast, IntKind.signed, IntKind.bits, hgG, Int.toNat_natCast, List.length_map, hkk2, hcG]) | refine NextAt.mk (fun hc => ?_) (fun pre n v post hc hkey => ?_) | refine Sni.mk (fun hc => ?_) ?_ | refine Both.mk ?_ ?_ | refine AW_seq ?_ | refine AW_block ?_ | ((first | refine AW_reg ?_ | refine AW_cond ?_ | refine AW_skip ?_ | refine AW_exit ?_ | refine AW_ret ?_ | refine AW_regD (by kernel_rfl) ?_ | refine AW_regX (by kernel_rfl) ?_ | refine CallAtG.t (Eq.refl true) ?_ | refine CallAtG.f (Eq.refl false) ?_ | refine CallAt.mk _ (g18 ..) (by first | (intro h; cases h; done) | (intro _; repeat' (first | exact List.forall_mem_nil _ | trivial | refine List.forall_mem_cons.2 ⟨?_, ?_⟩)) | (intro _; simp [RV.flatP, CD.flatP, hgG, Int.toNat_natCast, List.length_map, hkk2, hcG]; done)) ?_ | refine CallAtG.mk _ (fun _ => g18 ..) ?_ | refine CallDS.mk _ (by simp [RV.data]) (fun _ => g18 ..) (by first | (intro h; cases h; done) | (intro _; repeat' (first | exact List.forall_mem_nil _ | trivial | refine List.forall_mem_cons.2 ⟨?_, ?_⟩)) | (intro _; simp [RV.flatP, CD.flatP, hgG, Int.toNat_natCast, List.length_map, hkk2, hcG]; done)) ?_); try simp (disch := omega) only [go_sem, seval, reduceCtorEq, ↓reduceIte, beq_dec, Int.toNat_natCast, IntKind.signed, IntKind.bits, hgG, Int.toNat_natCast, List.length_map, hkk2, hcG]) | refine And.intro (fun hc => (?_ : AW _ _ _ _)) (fun hc => (?_ : AW _ _ _ _)) | simp (disch := omega) only [go_sem, seval, reduceCtorEq, ↓reduceIte, beq_dec, Int.toNat_natCast, IntKind.signed, IntKind.bits, hgG, Int.toNat_natCast, List.length_map, hkk2, hcG] | (refine And.intro ?_ ?_; focus (first | (intros; omega) | (intros; simp_all; done))) | refine And.intro (?_ : CallAt _ _ _ _ _ _ _ _) ?_ | refine And.intro (?_ : CallAt _ _ _ _ _ _ _ _ ∧ _) ?_ | refine And.intro (?_ : AW _ _ _ _) ?_ | fail))
                refine ⟨AW_cut (ou25 G k c x m .nil) (in25 G k c x m) (r25 G k c x m _ (by omega) grec) ?_ ?_⟩
                · unfold in25
                  simp (disch := omega) only [go_sem, seval, reduceCtorEq, ↓reduceIte, beq_dec, Int.toNat_natCast, IntKind.signed, IntKind.bits]
                · unfold ou25
                  (repeat' (first | refine NextAt.mk (fun hc => ?_) (fun pre n v post hc hkey => ?_) | refine Sni.mk (fun hc => ?_) ?_ | refine Both.mk ?_ ?_ | refine AW_seq ?_ | refine AW_block ?_ | ((first | refine AW_reg ?_ | refine AW_cond ?_ | refine AW_skip ?_ | refine AW_exit ?_ | refine AW_ret ?_ | refine AW_regD (by kernel_rfl) ?_ | refine AW_regX (by kernel_rfl) ?_ | refine CallAtG.t (Eq.refl true) ?_ | refine CallAtG.f (Eq.refl false) ?_); try simp (disch := omega) only [go_sem, seval, reduceCtorEq, ↓reduceIte, beq_dec, Int.toNat_natCast, IntKind.signed, IntKind.bits]) | refine And.intro (fun hc => (?_ : AW _ _ _ _)) (fun hc => (?_ : AW _ _ _ _)) | simp (disch := omega) only [go_sem, seval, reduceCtorEq, ↓reduceIte, beq_dec, Int.toNat_natCast, IntKind.signed, IntKind.bits] | (refine And.intro ?_ ?_; focus (first | (intros; omega) | (intros; simp_all; done))) | refine And.intro (?_ : CallAt _ _ _ _ _ _ _ _) ?_ | refine And.intro (?_ : CallAt _ _ _ _ _ _ _ _ ∧ _) ?_ | refine And.intro (?_ : AW _ _ _ _) ?_ | fail))
                  refine .mk (x + 1) ⟨by omega, fun y hy => ?_⟩ (by omega) ?_
                  · rcases Nat.lt_succ_iff_lt_or_eq.1 hy with hy | rfl
                    · exact hprev y hy
                    · exact hstep
                  · simp (disch := omega) only [go_sem, seval, reduceCtorEq, ↓reduceIte, beq_dec, Int.toNat_natCast, IntKind.signed, IntKind.bits, Int.natCast_add, Int.natCast_one]
              | some c' =>
                rw [ho] at grec
                have hstep := hstep.trans ho
                simp only [colV] at grec
                have hlen := colN_len G k f _ _ ho
                have hne : c' ≠ [] := fun e => by subst e; simp at hlen; omega
                have hfin := range_find (fun x => if badN G c x then none else colN G k f (c ++ [x])) hprev hxm hstep
                rw [hfin] at hD0
                simp only [colV] at hD0
                (repeat' (first | (with_reducible refine hold25 ?_; try simp (disch := omega) only [go_sem, seval, reduceCtorEq, ↓reduceIte, beq_dec, Int.toNat_natCast, IntKind.signed, IntKind.bits, hgG, Int.toNat_natCast, List.length_map, hkk2, hcG]) | refine NextAt.mk (fun hc => ?_) (fun pre n v post hc hkey => ?_) | refine Sni.mk (fun hc => ?_) ?_ | refine Both.mk ?_ ?_ | refine AW_seq ?_ | refine AW_block ?_ | ((first | refine AW_reg ?_ | refine AW_cond ?_ | refine AW_skip ?_ | refine AW_exit ?_ | refine AW_ret ?_ | refine AW_regD (by kernel_rfl) ?_ | refine AW_regX (by kernel_rfl) ?_ | refine CallAtG.t (Eq.refl true) ?_ | refine CallAtG.f (Eq.refl false) ?_ | refine CallAt.mk _ (g18 ..) (by first | (intro h; cases h; done) | (intro _; repeat' (first | exact List.forall_mem_nil _ | trivial | refine List.forall_mem_cons.2 ⟨?_, ?_⟩)) | (intro _; simp [RV.flatP, CD.flatP, hgG, Int.toNat_natCast, List.length_map, hkk2, hcG]; done)) ?_ | refine CallAtG.mk _ (fun _ => g18 ..) ?_ | refine CallDS.mk _ (by simp [RV.data]) (fun _ => g18 ..) (by first | (intro h; cases h; done) | (intro _; repeat' (first | exact List.forall_mem_nil _ | trivial | refine List.forall_mem_cons.2 ⟨?_, ?_⟩)) | (intro _; simp [RV.flatP, CD.flatP, hgG, Int.toNat_natCast, List.length_map, hkk2, hcG]; done)) ?_); try simp (disch := omega) only [go_sem, seval, reduceCtorEq, ↓reduceIte, beq_dec, Int.toNat_natCast, IntKind.signed, IntKind.bits, hgG, Int.toNat_natCast, List.length_map, hkk2, hcG]) | refine And.intro (fun hc => (?_ : AW _ _ _ _)) (fun hc => (?_ : AW _ _ _ _)) | simp (disch := omega) only [go_sem, seval, reduceCtorEq, ↓reduceIte, beq_dec, Int.toNat_natCast, IntKind.signed, IntKind.bits, hgG, Int.toNat_natCast, List.length_map, hkk2, hcG] | (refine And.intro ?_ ?_; focus (first | (intros; omega) | (intros; simp_all; done))) | refine And.intro (?_ : CallAt _ _ _ _ _ _ _ _) ?_ | refine And.intro (?_ : CallAt _ _ _ _ _ _ _ _ ∧ _) ?_ | refine And.intro (?_ : AW _ _ _ _) ?_ | fail))
                refine ⟨AW_cut (ou25 G k c x m (NR c')) (in25 G k c x m) (r25 G k c x m _ (by omega) grec) ?_ ?_⟩
                · unfold in25
                  simp (disch := omega) only [go_sem, seval, reduceCtorEq, ↓reduceIte, beq_dec, Int.toNat_natCast, IntKind.signed, IntKind.bits]
                · unfold ou25
                  (repeat' (first | refine NextAt.mk (fun hc => ?_) (fun pre n v post hc hkey => ?_) | refine Sni.mk (fun hc => ?_) ?_ | refine Both.mk ?_ ?_ | refine AW_seq ?_ | refine AW_block ?_ | ((first | refine AW_reg ?_ | refine AW_cond ?_ | refine AW_skip ?_ | refine AW_exit ?_ | refine AW_ret ?_ | refine AW_regD (by kernel_rfl) ?_ | refine AW_regX (by kernel_rfl) ?_ | refine CallAtG.t (Eq.refl true) ?_ | refine CallAtG.f (Eq.refl false) ?_); try simp (disch := omega) only [go_sem, seval, reduceCtorEq, ↓reduceIte, beq_dec, Int.toNat_natCast, IntKind.signed, IntKind.bits, hD0]) | refine And.intro (fun hc => (?_ : AW _ _ _ _)) (fun hc => (?_ : AW _ _ _ _)) | simp (disch := omega) only [go_sem, seval, reduceCtorEq, ↓reduceIte, beq_dec, Int.toNat_natCast, IntKind.signed, IntKind.bits, hD0] | (refine And.intro ?_ ?_; focus (first | (intros; omega) | (intros; simp_all; done))) | refine And.intro (?_ : CallAt _ _ _ _ _ _ _ _) ?_ | refine And.intro (?_ : CallAt _ _ _ _ _ _ _ _ ∧ _) ?_ | refine And.intro (?_ : AW _ _ _ _) ?_ | fail))
                  all_goals exact absurd (List.map_eq_nil_iff.1 (by assumption)) hne
          · obtain rfl : x = m := by omega
            have hkk2 : ((x : Int) < (x : Int)) = False := eq_false (by omega)
            have hfin := range_none (fun x => if badN G c x then none else colN G k f (c ++ [x])) hprev
            rw [hfin] at hD0
            simp only [colV] at hD0
            (repeat' (first | refine NextAt.mk (fun hc => ?_) (fun pre n v post hc hkey => ?_) | refine Sni.mk (fun hc => ?_) ?_ | refine Both.mk ?_ ?_ | refine AW_seq ?_ | refine AW_block ?_ | ((first | refine AW_reg ?_ | refine AW_cond ?_ | refine AW_skip ?_ | refine AW_exit ?_ | refine AW_ret ?_ | refine AW_regD (by kernel_rfl) ?_ | refine AW_regX (by kernel_rfl) ?_ | refine CallAtG.t (Eq.refl true) ?_ | refine CallAtG.f (Eq.refl false) ?_); try simp (disch := omega) only [go_sem, seval, reduceCtorEq, ↓reduceIte, beq_dec, Int.toNat_natCast, IntKind.signed, IntKind.bits, hkk2, hD0]) | refine And.intro (fun hc => (?_ : AW _ _ _ _)) (fun hc => (?_ : AW _ _ _ _)) | simp (disch := omega) only [go_sem, seval, reduceCtorEq, ↓reduceIte, beq_dec, Int.toNat_natCast, IntKind.signed, IntKind.bits, hkk2, hD0] | (refine And.intro ?_ ?_; focus (first | (intros; omega) | (intros; simp_all; done))) | refine And.intro (?_ : CallAt _ _ _ _ _ _ _ _) ?_ | refine And.intro (?_ : CallAt _ _ _ _ _ _ _ _ ∧ _) ?_ | refine And.intro (?_ : AW _ _ _ _) ?_ | fail))
end Go.Proofs.Ytggcpnnmmcnogaa

-- P p_b.txt
open Go Go.AL Go.RowKit
namespace Go.Proofs.Ytggcpnnmmcnogaa
set_option maxRecDepth 20000
set_option maxHeartbeats 4000000 in
theorem x14 (n : Nat) (hn : n ≤ 12) (hn0 : 0 < n) (p : List (Nat × Nat)) (hpl : p.length ≤ 200) (h1 : ∀ i, i < p.length → (nth p i).1 < (nth p i).2 ∧ (nth p i).2 < n) (m : Nat) (hm : m ≤ 50) (c : List Nat)
    (h2 : ∀ k, k < m → colN (madeN n p) k n [] = none) (h3 : colN (madeN n p) m n [] = some c) : FnR Try.prog 14 [.I (n : Int), .c (PR p)] [.c (NR c), .c (.I (m : Int))] := by
  have g15 := x15 n hn p hpl h1
  have hG := madeN_len n p
  have hrow : ∀ v, ((madeN n p).getD v []).length ≤ 1000 := fun v => by have := madeN_row n p v; omega
  have hne : c ≠ [] := fun e => by
    have := colN_len _ _ _ _ _ h3
    subst e; simp at this; omega
  generalize madeN n p = G at *
  refine fn_walk code14 (by simp) ?_
  (repeat' (first | refine NextAt.mk (fun hc => ?_) (fun pre n v post hc hkey => ?_) | refine Sni.mk (fun hc => ?_) ?_ | refine Both.mk ?_ ?_ | refine AW_seq ?_ | refine AW_block ?_ | ((first | refine AW_reg ?_ | refine AW_cond ?_ | refine AW_skip ?_ | refine AW_exit ?_ | refine AW_ret ?_ | refine AW_regD (by kernel_rfl) ?_ | refine AW_regX (by kernel_rfl) ?_ | refine CallAtG.t (Eq.refl true) ?_ | refine CallAtG.f (Eq.refl false) ?_ | refine CallAt.mk _ (g15 ..) (by first | (intro h; cases h; done) | (intro _; repeat' (first | exact List.forall_mem_nil _ | trivial | refine List.forall_mem_cons.2 ⟨?_, ?_⟩)) | (intro _; simp [RV.flatP, CD.flatP]; done)) ?_ | refine CallAtG.mk _ (fun _ => g15 ..) ?_ | refine CallDS.mk _ (by simp [RV.data]) (fun _ => g15 ..) (by first | (intro h; cases h; done) | (intro _; repeat' (first | exact List.forall_mem_nil _ | trivial | refine List.forall_mem_cons.2 ⟨?_, ?_⟩)) | (intro _; simp [RV.flatP, CD.flatP]; done)) ?_); try simp (disch := omega) only [go_sem, seval, reduceCtorEq, ↓reduceIte, beq_dec, Int.toNat_natCast, IntKind.signed, IntKind.bits]) | refine And.intro (fun hc => (?_ : AW _ _ _ _)) (fun hc => (?_ : AW _ _ _ _)) | simp (disch := omega) only [go_sem, seval, reduceCtorEq, ↓reduceIte, beq_dec, Int.toNat_natCast, IntKind.signed, IntKind.bits] | (refine And.intro ?_ ?_; focus (first | (intros; omega) | (intros; simp_all; done))) | refine And.intro (?_ : CallAt _ _ _ _ _ _ _ _) ?_ | refine And.intro (?_ : CallAt _ _ _ _ _ _ _ _ ∧ _) ?_ | refine And.intro (?_ : AW _ _ _ _) ?_ | fail))
  refine AW_loopK [6] [4, 5, 7, 8, 12, 13, 14, 15, 16, 17, 18, 19, 20, 21] (fun k : Nat => k ≤ m) (fun k => [(7, .I k)]) (fun _ => []) (fun k => m - k) 0 (by omega) ?_ ?_
  · simp (disch := omega) only [go_sem, seval, reduceCtorEq, ↓reduceIte, beq_dec, Int.toNat_natCast, IntKind.signed, IntKind.bits, Int.natCast_zero]
  · intro k hk
    rcases Nat.lt_or_ge k m with hkm | hkm
    · have g := x25 G n hG hn hn0 hrow k (by omega) n [] (by simp) (by simp)
      rw [h2 k hkm] at g
      simp only [colV, NR, List.map_nil] at g
      (repeat' (first | refine NextAt.mk (fun hc => ?_) (fun pre n v post hc hkey => ?_) | refine Sni.mk (fun hc => ?_) ?_ | refine Both.mk ?_ ?_ | refine AW_seq ?_ | refine AW_block ?_ | ((first | refine AW_reg ?_ | refine AW_cond ?_ | refine AW_skip ?_ | refine AW_exit ?_ | refine AW_ret ?_ | refine AW_regD (by kernel_rfl) ?_ | refine AW_regX (by kernel_rfl) ?_ | refine CallAtG.t (Eq.refl true) ?_ | refine CallAtG.f (Eq.refl false) ?_); try simp (disch := omega) only [go_sem, seval, reduceCtorEq, ↓reduceIte, beq_dec, Int.toNat_natCast, IntKind.signed, IntKind.bits]) | refine And.intro (fun hc => (?_ : AW _ _ _ _)) (fun hc => (?_ : AW _ _ _ _)) | simp (disch := omega) only [go_sem, seval, reduceCtorEq, ↓reduceIte, beq_dec, Int.toNat_natCast, IntKind.signed, IntKind.bits] | (refine And.intro ?_ ?_; focus (first | (intros; omega) | (intros; simp_all; done))) | refine And.intro (?_ : CallAt _ _ _ _ _ _ _ _) ?_ | refine And.intro (?_ : CallAt _ _ _ _ _ _ _ _ ∧ _) ?_ | refine And.intro (?_ : AW _ _ _ _) ?_ | fail))
      refine CallAt.frz [15] ?_
      simp (disch := omega) only [go_sem, seval, reduceCtorEq, ↓reduceIte, beq_dec, Int.toNat_natCast, IntKind.signed, IntKind.bits]
      (repeat' (first | refine NextAt.mk (fun hc => ?_) (fun pre n v post hc hkey => ?_) | refine Sni.mk (fun hc => ?_) ?_ | refine Both.mk ?_ ?_ | refine AW_seq ?_ | refine AW_block ?_ | ((first | refine AW_reg ?_ | refine AW_cond ?_ | refine AW_skip ?_ | refine AW_exit ?_ | refine AW_ret ?_ | refine AW_regD (by kernel_rfl) ?_ | refine AW_regX (by kernel_rfl) ?_ | refine CallAtG.t (Eq.refl true) ?_ | refine CallAtG.f (Eq.refl false) ?_ | refine CallAt.mk _ (g ..) (by first | (intro h; cases h; done) | (intro _; repeat' (first | exact List.forall_mem_nil _ | trivial | refine List.forall_mem_cons.2 ⟨?_, ?_⟩)) | (intro _; simp [RV.flatP, CD.flatP]; done)) ?_ | refine CallAtG.mk _ (fun _ => g ..) ?_ | refine CallDS.mk _ (by simp [RV.data]) (fun _ => g ..) (by first | (intro h; cases h; done) | (intro _; repeat' (first | exact List.forall_mem_nil _ | trivial | refine List.forall_mem_cons.2 ⟨?_, ?_⟩)) | (intro _; simp [RV.flatP, CD.flatP]; done)) ?_); try simp (disch := omega) only [go_sem, seval, reduceCtorEq, ↓reduceIte, beq_dec, Int.toNat_natCast, IntKind.signed, IntKind.bits]) | refine And.intro (fun hc => (?_ : AW _ _ _ _)) (fun hc => (?_ : AW _ _ _ _)) | simp (disch := omega) only [go_sem, seval, reduceCtorEq, ↓reduceIte, beq_dec, Int.toNat_natCast, IntKind.signed, IntKind.bits] | (refine And.intro ?_ ?_; focus (first | (intros; omega) | (intros; simp_all; done))) | refine And.intro (?_ : CallAt _ _ _ _ _ _ _ _) ?_ | refine And.intro (?_ : CallAt _ _ _ _ _ _ _ _ ∧ _) ?_ | refine And.intro (?_ : AW _ _ _ _) ?_ | fail))
      refine .mk (k + 1) (by omega) (by omega) ?_
      simp (disch := omega) only [go_sem, seval, reduceCtorEq, ↓reduceIte, beq_dec, Int.toNat_natCast, IntKind.signed, IntKind.bits, Int.natCast_add, Int.natCast_one]
    · obtain rfl : k = m := by omega
      have g := x25 G n hG hn hn0 hrow k (by omega) n [] (by simp) (by simp)
      rw [h3] at g
      simp only [colV] at g
      have e : NR [] = .sl 1 [] := rfl
      rw [e] at g
      (repeat' (first | refine NextAt.mk (fun hc => ?_) (fun pre n v post hc hkey => ?_) | refine Sni.mk (fun hc => ?_) ?_ | refine Both.mk ?_ ?_ | refine AW_seq ?_ | refine AW_block ?_ | ((first | refine AW_reg ?_ | refine AW_cond ?_ | refine AW_skip ?_ | refine AW_exit ?_ | refine AW_ret ?_ | refine AW_regD (by kernel_rfl) ?_ | refine AW_regX (by kernel_rfl) ?_ | refine CallAtG.t (Eq.refl true) ?_ | refine CallAtG.f (Eq.refl false) ?_); try simp (disch := omega) only [go_sem, seval, reduceCtorEq, ↓reduceIte, beq_dec, Int.toNat_natCast, IntKind.signed, IntKind.bits]) | refine And.intro (fun hc => (?_ : AW _ _ _ _)) (fun hc => (?_ : AW _ _ _ _)) | simp (disch := omega) only [go_sem, seval, reduceCtorEq, ↓reduceIte, beq_dec, Int.toNat_natCast, IntKind.signed, IntKind.bits] | (refine And.intro ?_ ?_; focus (first | (intros; omega) | (intros; simp_all; done))) | refine And.intro (?_ : CallAt _ _ _ _ _ _ _ _) ?_ | refine And.intro (?_ : CallAt _ _ _ _ _ _ _ _ ∧ _) ?_ | refine And.intro (?_ : AW _ _ _ _) ?_ | fail))
      refine CallAt.frz [15] ?_
      simp (disch := omega) only [go_sem, seval, reduceCtorEq, ↓reduceIte, beq_dec, Int.toNat_natCast, IntKind.signed, IntKind.bits]
      (repeat' (first | refine NextAt.mk (fun hc => ?_) (fun pre n v post hc hkey => ?_) | refine Sni.mk (fun hc => ?_) ?_ | refine Both.mk ?_ ?_ | refine AW_seq ?_ | refine AW_block ?_ | ((first | refine AW_reg ?_ | refine AW_cond ?_ | refine AW_skip ?_ | refine AW_exit ?_ | refine AW_ret ?_ | refine AW_regD (by kernel_rfl) ?_ | refine AW_regX (by kernel_rfl) ?_ | refine CallAtG.t (Eq.refl true) ?_ | refine CallAtG.f (Eq.refl false) ?_ | refine CallAt.mk _ (g ..) (by first | (intro h; cases h; done) | (intro _; repeat' (first | exact List.forall_mem_nil _ | trivial | refine List.forall_mem_cons.2 ⟨?_, ?_⟩)) | (intro _; simp [RV.flatP, CD.flatP]; done)) ?_ | refine CallAtG.mk _ (fun _ => g ..) ?_ | refine CallDS.mk _ (by simp [RV.data]) (fun _ => g ..) (by first | (intro h; cases h; done) | (intro _; repeat' (first | exact List.forall_mem_nil _ | trivial | refine List.forall_mem_cons.2 ⟨?_, ?_⟩)) | (intro _; simp [RV.flatP, CD.flatP]; done)) ?_); try simp (disch := omega) only [go_sem, seval, reduceCtorEq, ↓reduceIte, beq_dec, Int.toNat_natCast, IntKind.signed, IntKind.bits]) | refine And.intro (fun hc => (?_ : AW _ _ _ _)) (fun hc => (?_ : AW _ _ _ _)) | simp (disch := omega) only [go_sem, seval, reduceCtorEq, ↓reduceIte, beq_dec, Int.toNat_natCast, IntKind.signed, IntKind.bits] | (refine And.intro ?_ ?_; focus (first | (intros; omega) | (intros; simp_all; done))) | refine And.intro (?_ : CallAt _ _ _ _ _ _ _ _) ?_ | refine And.intro (?_ : CallAt _ _ _ _ _ _ _ _ ∧ _) ?_ | refine And.intro (?_ : AW _ _ _ _) ?_ | fail))
      all_goals exact absurd (List.map_eq_nil_iff.1 (by assumption)) hne
theorem x25z : FnR Try.prog 25 [.c (TN []), .c .ne, .I 0] [.c .ne] := by
  refine fn_walk code25 (by simp) ?_
  (repeat' (first | refine NextAt.mk (fun hc => ?_) (fun pre n v post hc hkey => ?_) | refine Sni.mk (fun hc => ?_) ?_ | refine Both.mk ?_ ?_ | refine AW_seq ?_ | refine AW_block ?_ | ((first | refine AW_reg ?_ | refine AW_cond ?_ | refine AW_skip ?_ | refine AW_exit ?_ | refine AW_ret ?_ | refine AW_regD (by kernel_rfl) ?_ | refine AW_regX (by kernel_rfl) ?_ | refine CallAtG.t (Eq.refl true) ?_ | refine CallAtG.f (Eq.refl false) ?_); try simp (disch := omega) only [go_sem, seval, reduceCtorEq, ↓reduceIte, beq_dec, Int.toNat_natCast, IntKind.signed, IntKind.bits, List.map_nil]) | refine And.intro (fun hc => (?_ : AW _ _ _ _)) (fun hc => (?_ : AW _ _ _ _)) | simp (disch := omega) only [go_sem, seval, reduceCtorEq, ↓reduceIte, beq_dec, Int.toNat_natCast, IntKind.signed, IntKind.bits, List.map_nil] | (refine And.intro ?_ ?_; focus (first | (intros; omega) | (intros; simp_all; done))) | refine And.intro (?_ : CallAt _ _ _ _ _ _ _ _) ?_ | refine And.intro (?_ : CallAt _ _ _ _ _ _ _ _ ∧ _) ?_ | refine And.intro (?_ : AW _ _ _ _) ?_ | fail))
theorem x14z : FnR Try.prog 14 [.I 0, .c (PR [])] [.c .ne, .c (.I 0)] := by
  have g15 := x15 0 (by omega) [] (by simp) (by simp)
  have e : madeN 0 [] = [] := rfl
  rw [e] at g15
  have g := x25z
  simp only [TN, PR, List.map_nil] at g g15 ⊢
  refine fn_walk code14 (by simp) ?_
  (repeat' (first | refine NextAt.mk (fun hc => ?_) (fun pre n v post hc hkey => ?_) | refine Sni.mk (fun hc => ?_) ?_ | refine Both.mk ?_ ?_ | refine AW_seq ?_ | refine AW_block ?_ | ((first | refine AW_reg ?_ | refine AW_cond ?_ | refine AW_skip ?_ | refine AW_exit ?_ | refine AW_ret ?_ | refine AW_regD (by kernel_rfl) ?_ | refine AW_regX (by kernel_rfl) ?_ | refine CallAtG.t (Eq.refl true) ?_ | refine CallAtG.f (Eq.refl false) ?_ | refine CallAt.mk _ (g15 ..) (by first | (intro h; cases h; done) | (intro _; repeat' (first | exact List.forall_mem_nil _ | trivial | refine List.forall_mem_cons.2 ⟨?_, ?_⟩)) | (intro _; simp [RV.flatP, CD.flatP]; done)) ?_ | refine CallAtG.mk _ (fun _ => g15 ..) ?_ | refine CallDS.mk _ (by simp [RV.data]) (fun _ => g15 ..) (by first | (intro h; cases h; done) | (intro _; repeat' (first | exact List.forall_mem_nil _ | trivial | refine List.forall_mem_cons.2 ⟨?_, ?_⟩)) | (intro _; simp [RV.flatP, CD.flatP]; done)) ?_); try simp (disch := omega) only [go_sem, seval, reduceCtorEq, ↓reduceIte, beq_dec, Int.toNat_natCast, IntKind.signed, IntKind.bits]) | refine And.intro (fun hc => (?_ : AW _ _ _ _)) (fun hc => (?_ : AW _ _ _ _)) | simp (disch := omega) only [go_sem, seval, reduceCtorEq, ↓reduceIte, beq_dec, Int.toNat_natCast, IntKind.signed, IntKind.bits] | (refine And.intro ?_ ?_; focus (first | (intros; omega) | (intros; simp_all; done))) | refine And.intro (?_ : CallAt _ _ _ _ _ _ _ _) ?_ | refine And.intro (?_ : CallAt _ _ _ _ _ _ _ _ ∧ _) ?_ | refine And.intro (?_ : AW _ _ _ _) ?_ | fail))
  refine AW_mark ?_
  refine AW_loopK [6] [4, 5, 7, 8, 12, 13, 14, 15, 16, 17, 18, 19, 20, 21] (fun k : Nat => k = 0) (fun k => [(7, .I k), (20000, .opt false .any)]) (fun _ => []) (fun k => 0) 0 rfl ?_ ?_
  · simp (disch := omega) only [go_sem, seval, reduceCtorEq, ↓reduceIte, beq_dec, Int.toNat_natCast, IntKind.signed, IntKind.bits, Int.natCast_zero]
  · rintro k rfl
    (repeat' (first | refine NextAt.mk (fun hc => ?_) (fun pre n v post hc hkey => ?_) | refine Sni.mk (fun hc => ?_) ?_ | refine Both.mk ?_ ?_ | refine AW_seq ?_ | refine AW_block ?_ | ((first | refine AW_reg ?_ | refine AW_cond ?_ | refine AW_skip ?_ | refine AW_exit ?_ | refine AW_ret ?_ | refine AW_regD (by kernel_rfl) ?_ | refine AW_regX (by kernel_rfl) ?_ | refine CallAtG.t (Eq.refl true) ?_ | refine CallAtG.f (Eq.refl false) ?_ | refine CallAt.mk _ (g ..) (by first | (intro h; cases h; done) | (intro _; repeat' (first | exact List.forall_mem_nil _ | trivial | refine List.forall_mem_cons.2 ⟨?_, ?_⟩)) | (intro _; simp [RV.flatP, CD.flatP, Int.natCast_zero]; done)) ?_ | refine CallAtG.mk _ (fun _ => g ..) ?_ | refine CallDS.mk _ (by simp [RV.data]) (fun _ => g ..) (by first | (intro h; cases h; done) | (intro _; repeat' (first | exact List.forall_mem_nil _ | trivial | refine List.forall_mem_cons.2 ⟨?_, ?_⟩)) | (intro _; simp [RV.flatP, CD.flatP, Int.natCast_zero]; done)) ?_); try simp (disch := omega) only [go_sem, seval, reduceCtorEq, ↓reduceIte, beq_dec, Int.toNat_natCast, IntKind.signed, IntKind.bits, Int.natCast_zero]) | refine And.intro (fun hc => (?_ : AW _ _ _ _)) (fun hc => (?_ : AW _ _ _ _)) | simp (disch := omega) only [go_sem, seval, reduceCtorEq, ↓reduceIte, beq_dec, Int.toNat_natCast, IntKind.signed, IntKind.bits, Int.natCast_zero] | (refine And.intro ?_ ?_; focus (first | (intros; omega) | (intros; simp_all; done))) | refine And.intro (?_ : CallAt _ _ _ _ _ _ _ _) ?_ | refine And.intro (?_ : CallAt _ _ _ _ _ _ _ _ ∧ _) ?_ | refine And.intro (?_ : AW _ _ _ _) ?_ | fail))
set_option maxHeartbeats 4000000 in
theorem x7 (n : Nat) (hn : n ≤ 12) (p : List (Nat × Nat)) (hpl : p.length ≤ 200) (h1 : ∀ i, i < p.length → (nth p i).1 < (nth p i).2 ∧ (nth p i).2 < n) (h1' : ∀ i, i < p.length → 0 < i → lexP (nth p (i - 1)) (nth p i)) (m : Nat) (hm : m ≤ 50) (c : List Nat)
    (h2 : ∀ k, k < m → colN (madeN n p) k n [] = none) (h3 : colN (madeN n p) m n [] = some c) : FnR Try.prog 7 [.I (n : Int), .c (PR p)] [.c (.I (m : Int)), .c (.I 0)] := by
  have g13 := x13 n hn p (by omega) h1 h1'
  rcases Nat.eq_zero_or_pos n with h0 | h0
  · subst h0
    have hp : p = [] := by
      cases p with
      | nil => rfl
      | cons a r => have := (h1 0 (by simp)).2; omega
    subst hp
    have hm0 : m = 0 := by
      rcases Nat.eq_zero_or_pos m with h | h
      · exact h
      · have := h2 0 h; simp [colN] at this
    subst hm0
    have g14 := x14z
    simp only [Int.natCast_zero] at g13 ⊢
    refine fn_walk code7 (by simp) ?_
    (repeat' (first | refine NextAt.mk (fun hc => ?_) (fun pre n v post hc hkey => ?_) | refine Sni.mk (fun hc => ?_) ?_ | refine Both.mk ?_ ?_ | refine AW_seq ?_ | refine AW_block ?_ | ((first | refine AW_reg ?_ | refine AW_cond ?_ | refine AW_skip ?_ | refine AW_exit ?_ | refine AW_ret ?_ | refine AW_regD (by kernel_rfl) ?_ | refine AW_regX (by kernel_rfl) ?_ | refine CallAtG.t (Eq.refl true) ?_ | refine CallAtG.f (Eq.refl false) ?_ | refine CallAt.mk _ (g13 ..) (by first | (intro h; cases h; done) | (intro _; repeat' (first | exact List.forall_mem_nil _ | trivial | refine List.forall_mem_cons.2 ⟨?_, ?_⟩)) | (intro _; simp [RV.flatP, CD.flatP]; done)) ?_ | refine CallAtG.mk _ (fun _ => g13 ..) ?_ | refine CallDS.mk _ (by simp [RV.data]) (fun _ => g13 ..) (by first | (intro h; cases h; done) | (intro _; repeat' (first | exact List.forall_mem_nil _ | trivial | refine List.forall_mem_cons.2 ⟨?_, ?_⟩)) | (intro _; simp [RV.flatP, CD.flatP]; done)) ?_ | refine CallAt.mk _ (g14 ..) (by first | (intro h; cases h; done) | (intro _; repeat' (first | exact List.forall_mem_nil _ | trivial | refine List.forall_mem_cons.2 ⟨?_, ?_⟩)) | (intro _; simp [RV.flatP, CD.flatP]; done)) ?_ | refine CallAtG.mk _ (fun _ => g14 ..) ?_ | refine CallDS.mk _ (by simp [RV.data]) (fun _ => g14 ..) (by first | (intro h; cases h; done) | (intro _; repeat' (first | exact List.forall_mem_nil _ | trivial | refine List.forall_mem_cons.2 ⟨?_, ?_⟩)) | (intro _; simp [RV.flatP, CD.flatP]; done)) ?_); try simp (disch := omega) only [go_sem, seval, reduceCtorEq, ↓reduceIte, beq_dec, Int.toNat_natCast, IntKind.signed, IntKind.bits]) | refine And.intro (fun hc => (?_ : AW _ _ _ _)) (fun hc => (?_ : AW _ _ _ _)) | simp (disch := omega) only [go_sem, seval, reduceCtorEq, ↓reduceIte, beq_dec, Int.toNat_natCast, IntKind.signed, IntKind.bits] | (refine And.intro ?_ ?_; focus (first | (intros; omega) | (intros; simp_all; done))) | refine And.intro (?_ : CallAt _ _ _ _ _ _ _ _) ?_ | refine And.intro (?_ : CallAt _ _ _ _ _ _ _ _ ∧ _) ?_ | refine And.intro (?_ : AW _ _ _ _) ?_ | fail))
  · have g14 := x14 n hn h0 p hpl h1 m hm c h2 h3
    refine fn_walk code7 (by simp) ?_
    (repeat' (first | refine NextAt.mk (fun hc => ?_) (fun pre n v post hc hkey => ?_) | refine Sni.mk (fun hc => ?_) ?_ | refine Both.mk ?_ ?_ | refine AW_seq ?_ | refine AW_block ?_ | ((first | refine AW_reg ?_ | refine AW_cond ?_ | refine AW_skip ?_ | refine AW_exit ?_ | refine AW_ret ?_ | refine AW_regD (by kernel_rfl) ?_ | refine AW_regX (by kernel_rfl) ?_ | refine CallAtG.t (Eq.refl true) ?_ | refine CallAtG.f (Eq.refl false) ?_ | refine CallAt.mk _ (g13 ..) (by first | (intro h; cases h; done) | (intro _; repeat' (first | exact List.forall_mem_nil _ | trivial | refine List.forall_mem_cons.2 ⟨?_, ?_⟩)) | (intro _; simp [RV.flatP, CD.flatP]; done)) ?_ | refine CallAtG.mk _ (fun _ => g13 ..) ?_ | refine CallDS.mk _ (by simp [RV.data]) (fun _ => g13 ..) (by first | (intro h; cases h; done) | (intro _; repeat' (first | exact List.forall_mem_nil _ | trivial | refine List.forall_mem_cons.2 ⟨?_, ?_⟩)) | (intro _; simp [RV.flatP, CD.flatP]; done)) ?_ | refine CallAt.mk _ (g14 ..) (by first | (intro h; cases h; done) | (intro _; repeat' (first | exact List.forall_mem_nil _ | trivial | refine List.forall_mem_cons.2 ⟨?_, ?_⟩)) | (intro _; simp [RV.flatP, CD.flatP]; done)) ?_ | refine CallAtG.mk _ (fun _ => g14 ..) ?_ | refine CallDS.mk _ (by simp [RV.data]) (fun _ => g14 ..) (by first | (intro h; cases h; done) | (intro _; repeat' (first | exact List.forall_mem_nil _ | trivial | refine List.forall_mem_cons.2 ⟨?_, ?_⟩)) | (intro _; simp [RV.flatP, CD.flatP]; done)) ?_); try simp (disch := omega) only [go_sem, seval, reduceCtorEq, ↓reduceIte, beq_dec, Int.toNat_natCast, IntKind.signed, IntKind.bits]) | refine And.intro (fun hc => (?_ : AW _ _ _ _)) (fun hc => (?_ : AW _ _ _ _)) | simp (disch := omega) only [go_sem, seval, reduceCtorEq, ↓reduceIte, beq_dec, Int.toNat_natCast, IntKind.signed, IntKind.bits] | (refine And.intro ?_ ?_; focus (first | (intros; omega) | (intros; simp_all; done))) | refine And.intro (?_ : CallAt _ _ _ _ _ _ _ _) ?_ | refine And.intro (?_ : CallAt _ _ _ _ _ _ _ _ ∧ _) ?_ | refine And.intro (?_ : AW _ _ _ _) ?_ | fail))
end Go.Proofs.Ytggcpnnmmcnogaa

