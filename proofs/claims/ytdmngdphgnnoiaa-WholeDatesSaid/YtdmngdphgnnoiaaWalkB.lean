/-
  Lemmas for the proof: no statement of its own.
-/
import Derived.Test.YtdmngdphgnnoiaaAlD
import Derived.Test.YtdmngdphgnnoiaaWalkA
import Derived.Shelf.Bits.Mul64
import Derived.Test.YtdmngdphgnnoiaaProg
set_option linter.unusedVariables false
set_option linter.unusedSimpArgs false
open Go Go.AL Go.RowKit
namespace Go.Proofs.Ytdmngdphgnnoiaa
set_option maxRecDepth 20000
/- coinage/difference.within -/
abbrev c40_1 : AC := .reg [⟨(some 4), .mv (.k (.B false)), none⟩] false
abbrev c40_2 : AC := .reg [⟨(some 5), .mv (.t 0), none⟩,
  ⟨(some 6), .mv (.t 1), none⟩,
  ⟨(some 7), .neg (.t 6), none⟩,
  ⟨(some 8), .bin .geq (.t 5) (.t 7), none⟩,
  ⟨(some 9), .mv (.t 8), none⟩,
  ⟨(some 10), .mv (.t 0), (some (9, true))⟩,
  ⟨(some 11), .mv (.t 1), (some (9, true))⟩,
  ⟨(some 12), .bin .leq (.t 10) (.t 11), (some (9, true))⟩,
  ⟨(some 13), .pick (.t 9) (.t 12) (.k (.B false)), none⟩,
  ⟨(some 4), .mv (.t 13), none⟩] false
abbrev c40_3 : AC := .seq c40_2 .ret
abbrev c40_4 : AC := .seq c40_1 c40_3
abbrev c40 : AC := c40_4
theorem code40 : fnCode Try.prog 40 = some (c40, [4], 14) := by kernel_rfl
/- coinage/difference.right -/
abbrev c25_1 : AC := .reg [⟨(some 3), .box 55 (some 3) (.t 1), none⟩,
  ⟨(some 4), .mv (.k (.B false)), none⟩] false
abbrev c25_2 : AC := .reg [⟨(some 5), .fad 0 (.t 3), none⟩,
  ⟨(some 6), .ld none (.t 5), none⟩,
  ⟨(some 7), .bin .geq (.t 6) (.k (.I 0)), none⟩,
  ⟨(some 8), .mv (.t 7), none⟩,
  ⟨(some 9), .fad 0 (.t 3), (some (8, true))⟩,
  ⟨(some 10), .ld none (.t 9), (some (8, true))⟩,
  ⟨(some 11), .mv (.t 0), (some (8, true))⟩,
  ⟨(some 12), .bin .lss (.t 10) (.t 11), (some (8, true))⟩,
  ⟨(some 13), .pick (.t 8) (.t 12) (.k (.B false)), none⟩,
  ⟨(some 14), .mv (.t 13), none⟩,
  ⟨(some 15), .fad 1 (.t 3), (some (14, true))⟩,
  ⟨(some 16), .ld none (.t 15), (some (14, true))⟩,
  ⟨(some 17), .bin .geq (.t 16) (.k (.I 0)), (some (14, true))⟩,
  ⟨(some 18), .pick (.t 14) (.t 17) (.k (.B false)), none⟩,
  ⟨(some 19), .mv (.t 18), none⟩,
  ⟨(some 20), .fad 1 (.t 3), (some (19, true))⟩,
  ⟨(some 21), .ld none (.t 20), (some (19, true))⟩,
  ⟨(some 22), .mv (.t 0), (some (19, true))⟩,
  ⟨(some 23), .bin .lss (.t 21) (.t 22), (some (19, true))⟩,
  ⟨(some 24), .pick (.t 19) (.t 23) (.k (.B false)), none⟩,
  ⟨(some 25), .mv (.t 24), none⟩,
  ⟨(some 26), .fad 0 (.t 3), (some (25, true))⟩,
  ⟨(some 27), .ld none (.t 26), (some (25, true))⟩,
  ⟨(some 28), .fad 1 (.t 3), (some (25, true))⟩,
  ⟨(some 29), .ld none (.t 28), (some (25, true))⟩,
  ⟨(some 30), .bin .neq (.t 27) (.t 29), (some (25, true))⟩,
  ⟨(some 31), .pick (.t 25) (.t 30) (.k (.B false)), none⟩,
  ⟨(some 32), .mv (.t 31), none⟩,
  ⟨(some 33), .fad 2 (.t 3), (some (32, true))⟩,
  ⟨(some 34), .ld none (.t 33), (some (32, true))⟩,
  ⟨(some 35), .call 40 [(.t 34), (.k (.I 1000000))], (some (32, true))⟩,
  ⟨(some 36), .pick (.t 32) (.t 35) (.k (.B false)), none⟩,
  ⟨(some 4), .mv (.t 36), none⟩] false
abbrev c25_3 : AC := .seq c25_2 .ret
abbrev c25_4 : AC := .seq c25_1 c25_3
abbrev c25 : AC := c25_4
theorem code25 : fnCode Try.prog 25 = some (c25, [4], 37) := by kernel_rfl
/- coinage/difference.Valid$1 -/
abbrev c24_1 : AC := .reg [⟨(some 2), .box 55 (some 3) (.t 0), none⟩,
  ⟨(some 3), .mv (.k (.B false)), none⟩] false
abbrev c24_2 : AC := .reg [⟨(some 4), .ld none (.t 1), none⟩,
  ⟨(some 5), .ld (some 3) (.t 2), none⟩,
  ⟨(some 6), .call 25 [(.t 4), (.t 5)], none⟩,
  ⟨(some 7), .not (.t 6), none⟩,
  ⟨(some 3), .mv (.t 7), none⟩] false
abbrev c24_3 : AC := .seq c24_2 .ret
abbrev c24_4 : AC := .seq c24_1 c24_3
abbrev c24 : AC := c24_4
theorem code24 : fnCode Try.prog 24 = some (c24, [3], 8) := by kernel_rfl
/- slices.IndexFunc[[]coinage/api.Bound,coinage/api.Bound] -/
abbrev c41_1 : AC := .reg [⟨(some 4), .mv (.k (.I 0)), none⟩] false
abbrev c41_2 : AC := .reg [⟨(some 6), .mv (.t 0), none⟩,
  ⟨(some 7), .len (.t 6), none⟩,
  ⟨(some 8), .mv (.k (.I 0)), none⟩] false
abbrev c41_3 : AC := .reg [⟨(some 9), .bin .lss (.t 8) (.t 7), none⟩] false
abbrev c41_4 : AC := .cond (.t 9) .skip (.exit 0)
abbrev c41_5 : AC := .reg [⟨(some 10), .mv (.t 8), none⟩,
  ⟨(some 5), .mv (.t 10), none⟩] false
abbrev c41_6 : AC := .reg [⟨(some 11), .mv (.t 1), none⟩,
  ⟨(some 12), .mv (.t 0), none⟩,
  ⟨(some 13), .mv (.t 5), none⟩,
  ⟨(some 14), .iad 3 (.t 12) (.t 13), none⟩,
  ⟨(some 15), .ld (some 3) (.t 14), none⟩,
  ⟨(some 16), .callv (.t 11) [(.t 15)], none⟩] false
abbrev c41_7 : AC := .reg [⟨(some 17), .mv (.t 5), none⟩,
  ⟨(some 4), .mv (.t 17), none⟩] false
abbrev c41_8 : AC := .seq c41_7 .ret
abbrev c41_9 : AC := .cond (.t 16) c41_8 .skip
abbrev c41_10 : AC := .seq c41_6 c41_9
abbrev c41_11 : AC := .seq c41_5 c41_10
abbrev c41_12 : AC := .block 1 c41_11
abbrev c41_13 : AC := .reg [⟨(some 18), .bin .add (.t 8) (.k (.I 1)), none⟩,
  ⟨(some 8), .mv (.t 18), none⟩] false
abbrev c41_14 : AC := .seq c41_12 c41_13
abbrev c41_15 : AC := .seq c41_4 c41_14
abbrev c41_16 : AC := .seq c41_3 c41_15
abbrev c41_17 : AC := .loop c41_16
abbrev c41_18 : AC := .block 0 c41_17
abbrev c41_19 : AC := .seq c41_2 c41_18
abbrev c41_20 : AC := .reg [⟨(some 4), .mv (.k (.I (-1))), none⟩] false
abbrev c41_21 : AC := .seq c41_20 .ret
abbrev c41_22 : AC := .seq c41_19 c41_21
abbrev c41_23 : AC := .seq c41_1 c41_22
abbrev c41 : AC := c41_23
theorem code41 : fnCode Try.prog 41 = some (c41, [4], 19) := by kernel_rfl
/- slices.ContainsFunc[[]coinage/api.Bound,coinage/api.Bound] -/
abbrev c26_1 : AC := .reg [⟨(some 4), .mv (.k (.B false)), none⟩] false
abbrev c26_2 : AC := .reg [⟨(some 5), .mv (.t 0), none⟩,
  ⟨(some 6), .mv (.t 1), none⟩,
  ⟨(some 7), .call 41 [(.t 5), (.t 6)], none⟩,
  ⟨(some 8), .bin .geq (.t 7) (.k (.I 0)), none⟩,
  ⟨(some 4), .mv (.t 8), none⟩] false
abbrev c26_3 : AC := .seq c26_2 .ret
abbrev c26_4 : AC := .seq c26_1 c26_3
abbrev c26 : AC := c26_4
theorem code26 : fnCode Try.prog 26 = some (c26, [4], 9) := by kernel_rfl
/- coinage/difference.Valid -/
abbrev c9_1 : AC := .reg [⟨(some 2), .box 3 none (.t 0), none⟩,
  ⟨(some 4), .mv (.k (.B false)), none⟩] false
abbrev c9_2 : AC := .reg [⟨(some 6), .mkfn 24 [(.t 2)], none⟩,
  ⟨(some 5), .mv (.t 6), none⟩] false
abbrev c9_3 : AC := .reg [⟨(some 7), .ld none (.t 2), none⟩,
  ⟨(some 8), .bin .geq (.t 7) (.k (.I 1)), none⟩,
  ⟨(some 9), .mv (.t 8), none⟩,
  ⟨(some 10), .ld none (.t 2), (some (9, true))⟩,
  ⟨(some 11), .bin .leq (.t 10) (.k (.I 16)), (some (9, true))⟩,
  ⟨(some 12), .pick (.t 9) (.t 11) (.k (.B false)), none⟩,
  ⟨(some 13), .mv (.t 12), none⟩,
  ⟨(some 14), .mv (.t 1), (some (13, true))⟩,
  ⟨(some 15), .len (.t 14), (some (13, true))⟩,
  ⟨(some 16), .bin .leq (.t 15) (.k (.I 80)), (some (13, true))⟩,
  ⟨(some 17), .pick (.t 13) (.t 16) (.k (.B false)), none⟩,
  ⟨(some 18), .mv (.t 17), none⟩,
  ⟨(some 19), .mv (.t 1), (some (18, true))⟩,
  ⟨(some 20), .mv (.t 5), (some (18, true))⟩,
  ⟨(some 21), .call 26 [(.t 19), (.t 20)], (some (18, true))⟩,
  ⟨(some 22), .not (.t 21), (some (18, true))⟩,
  ⟨(some 23), .pick (.t 18) (.t 22) (.k (.B false)), none⟩,
  ⟨(some 4), .mv (.t 23), none⟩] false
abbrev c9_4 : AC := .seq c9_3 .ret
abbrev c9_5 : AC := .seq c9_2 c9_4
abbrev c9_6 : AC := .seq c9_1 c9_5
abbrev c9 : AC := c9_6
theorem code9 : fnCode Try.prog 9 = some (c9, [4], 24) := by kernel_rfl
/- coinage/difference.IsCycle$1 -/
abbrev c32_1 : AC := .reg [⟨(some 3), .mv (.k (.B false)), none⟩] false
abbrev c32_2 : AC := .reg [⟨(some 4), .mv (.t 0), none⟩,
  ⟨(some 5), .bin .lss (.t 4) (.k (.I 0)), none⟩,
  ⟨(some 6), .mv (.t 5), none⟩,
  ⟨(some 7), .mv (.t 0), (some (6, false))⟩,
  ⟨(some 8), .ld none (.t 1), (some (6, false))⟩,
  ⟨(some 9), .len (.t 8), (some (6, false))⟩,
  ⟨(some 10), .bin .geq (.t 7) (.t 9), (some (6, false))⟩,
  ⟨(some 11), .pick (.t 6) (.k (.B true)) (.t 10), none⟩,
  ⟨(some 3), .mv (.t 11), none⟩] false
abbrev c32_3 : AC := .seq c32_2 .ret
abbrev c32_4 : AC := .seq c32_1 c32_3
abbrev c32 : AC := c32_4
theorem code32 : fnCode Try.prog 32 = some (c32, [3], 12) := by kernel_rfl
/- slices.IndexFunc[[]int,int] -/
abbrev c47_1 : AC := .reg [⟨(some 4), .mv (.k (.I 0)), none⟩] false
abbrev c47_2 : AC := .reg [⟨(some 6), .mv (.t 0), none⟩,
  ⟨(some 7), .len (.t 6), none⟩,
  ⟨(some 8), .mv (.k (.I 0)), none⟩] false
abbrev c47_3 : AC := .reg [⟨(some 9), .bin .lss (.t 8) (.t 7), none⟩] false
abbrev c47_4 : AC := .cond (.t 9) .skip (.exit 0)
abbrev c47_5 : AC := .reg [⟨(some 10), .mv (.t 8), none⟩,
  ⟨(some 5), .mv (.t 10), none⟩] false
abbrev c47_6 : AC := .reg [⟨(some 11), .mv (.t 1), none⟩,
  ⟨(some 12), .mv (.t 0), none⟩,
  ⟨(some 13), .mv (.t 5), none⟩,
  ⟨(some 14), .iad 1 (.t 12) (.t 13), none⟩,
  ⟨(some 15), .ld none (.t 14), none⟩,
  ⟨(some 16), .callv (.t 11) [(.t 15)], none⟩] false
abbrev c47_7 : AC := .reg [⟨(some 17), .mv (.t 5), none⟩,
  ⟨(some 4), .mv (.t 17), none⟩] false
abbrev c47_8 : AC := .seq c47_7 .ret
abbrev c47_9 : AC := .cond (.t 16) c47_8 .skip
abbrev c47_10 : AC := .seq c47_6 c47_9
abbrev c47_11 : AC := .seq c47_5 c47_10
abbrev c47_12 : AC := .block 1 c47_11
abbrev c47_13 : AC := .reg [⟨(some 18), .bin .add (.t 8) (.k (.I 1)), none⟩,
  ⟨(some 8), .mv (.t 18), none⟩] false
abbrev c47_14 : AC := .seq c47_12 c47_13
abbrev c47_15 : AC := .seq c47_4 c47_14
abbrev c47_16 : AC := .seq c47_3 c47_15
abbrev c47_17 : AC := .loop c47_16
abbrev c47_18 : AC := .block 0 c47_17
abbrev c47_19 : AC := .seq c47_2 c47_18
abbrev c47_20 : AC := .reg [⟨(some 4), .mv (.k (.I (-1))), none⟩] false
abbrev c47_21 : AC := .seq c47_20 .ret
abbrev c47_22 : AC := .seq c47_19 c47_21
abbrev c47_23 : AC := .seq c47_1 c47_22
abbrev c47 : AC := c47_23
theorem code47 : fnCode Try.prog 47 = some (c47, [4], 19) := by kernel_rfl
/- slices.ContainsFunc[[]int,int] -/
abbrev c31_1 : AC := .reg [⟨(some 4), .mv (.k (.B false)), none⟩] false
abbrev c31_2 : AC := .reg [⟨(some 5), .mv (.t 0), none⟩,
  ⟨(some 6), .mv (.t 1), none⟩,
  ⟨(some 7), .call 47 [(.t 5), (.t 6)], none⟩,
  ⟨(some 8), .bin .geq (.t 7) (.k (.I 0)), none⟩,
  ⟨(some 4), .mv (.t 8), none⟩] false
abbrev c31_3 : AC := .seq c31_2 .ret
abbrev c31_4 : AC := .seq c31_1 c31_3
abbrev c31 : AC := c31_4
theorem code31 : fnCode Try.prog 31 = some (c31, [4], 9) := by kernel_rfl
/- coinage/difference.IsCycle -/
abbrev c12_1 : AC := .reg [⟨(some 4), .box 24 none (.t 1), none⟩,
  ⟨(some 6), .mv (.k (.B false)), none⟩] false
abbrev c12_2 : AC := .reg [⟨(some 10), .mv (.t 0), none⟩,
  ⟨(some 11), .ld none (.t 4), none⟩,
  ⟨(some 12), .call 9 [(.t 10), (.t 11)], none⟩,
  ⟨(some 13), .not (.t 12), none⟩,
  ⟨(some 14), .mv (.t 13), none⟩,
  ⟨(some 15), .mv (.t 2), (some (14, false))⟩,
  ⟨(some 16), .len (.t 15), (some (14, false))⟩,
  ⟨(some 17), .bin .eql (.t 16) (.k (.I 0)), (some (14, false))⟩,
  ⟨(some 18), .pick (.t 14) (.k (.B true)) (.t 17), none⟩] false
abbrev c12_3 : AC := .reg [⟨(some 6), .mv (.k (.B false)), none⟩] false
abbrev c12_4 : AC := .seq c12_3 .ret
abbrev c12_5 : AC := .cond (.t 18) c12_4 .skip
abbrev c12_6 : AC := .seq c12_2 c12_5
abbrev c12_7 : AC := .reg [⟨(some 19), .mv (.t 2), none⟩,
  ⟨(some 20), .mkfn 32 [(.t 4)], none⟩,
  ⟨(some 21), .call 31 [(.t 19), (.t 20)], none⟩] false
abbrev c12_8 : AC := .reg [⟨(some 6), .mv (.k (.B false)), none⟩] false
abbrev c12_9 : AC := .seq c12_8 .ret
abbrev c12_10 : AC := .cond (.t 21) c12_9 .skip
abbrev c12_11 : AC := .seq c12_7 c12_10
abbrev c12_12 : AC := .reg [⟨(some 7), .mv (.k (.I 0)), none⟩] false
abbrev c12_13 : AC := .reg [⟨(some 22), .mv (.t 2), none⟩,
  ⟨(some 23), .len (.t 22), none⟩,
  ⟨(some 24), .mv (.k (.I 0)), none⟩] false
abbrev c12_14 : AC := .reg [⟨(some 25), .bin .lss (.t 24) (.t 23), none⟩] false
abbrev c12_15 : AC := .cond (.t 25) .skip (.exit 0)
abbrev c12_16 : AC := .reg [⟨(some 26), .mv (.t 24), none⟩,
  ⟨(some 27), .iad 1 (.t 22) (.t 24), none⟩,
  ⟨(some 28), .ld none (.t 27), none⟩,
  ⟨(some 8), .mv (.t 26), none⟩,
  ⟨(some 9), .mv (.t 28), none⟩] false
abbrev c12_17 : AC := .regD [(⟨(some 29), .ld none (.t 4), none⟩, [4]),
  (⟨(some 30), .mv (.t 9), none⟩, [9]),
  (⟨(some 31), .iad 3 (.t 29) (.t 30), none⟩, [29, 30]),
  (⟨(some 32), .fad 1 (.t 31), none⟩, [31]),
  (⟨(some 33), .ld none (.t 32), none⟩, [32]),
  (⟨(some 34), .ld none (.t 4), none⟩, [4]),
  (⟨(some 35), .mv (.t 2), none⟩, [2]),
  (⟨(some 36), .mv (.t 8), none⟩, [8]),
  (⟨(some 37), .bin .add (.t 36) (.k (.I 1)), none⟩, [36]),
  (⟨(some 38), .mv (.t 2), none⟩, [2]),
  (⟨(some 39), .len (.t 38), none⟩, [38]),
  (⟨(some 40), .bin .rem (.t 37) (.t 39), none⟩, [37, 39]),
  (⟨(some 41), .iad 1 (.t 35) (.t 40), none⟩, [35, 40]),
  (⟨(some 42), .ld none (.t 41), none⟩, [41]),
  (⟨(some 43), .iad 3 (.t 34) (.t 42), none⟩, [34, 42]),
  (⟨(some 44), .fad 0 (.t 43), none⟩, [43]),
  (⟨(some 45), .ld none (.t 44), none⟩, [44]),
  (⟨(some 46), .bin .neq (.t 33) (.t 45), none⟩, [33, 45])]
abbrev c12_18 : AC := .reg [⟨(some 6), .mv (.k (.B false)), none⟩] false
abbrev c12_19 : AC := .seq c12_18 .ret
abbrev c12_20 : AC := .cond (.t 46) c12_19 .skip
abbrev c12_21 : AC := .seq c12_17 c12_20
abbrev c12_22 : AC := .reg [⟨(some 47), .mv (.t 7), none⟩,
  ⟨(some 48), .ld none (.t 4), none⟩,
  ⟨(some 49), .mv (.t 9), none⟩,
  ⟨(some 50), .iad 3 (.t 48) (.t 49), none⟩,
  ⟨(some 51), .fad 2 (.t 50), none⟩,
  ⟨(some 52), .ld none (.t 51), none⟩,
  ⟨(some 53), .bin .add (.t 47) (.t 52), none⟩,
  ⟨(some 7), .mv (.t 53), none⟩] false
abbrev c12_23 : AC := .seq c12_21 c12_22
abbrev c12_24 : AC := .seq c12_16 c12_23
abbrev c12_25 : AC := .block 1 c12_24
abbrev c12_26 : AC := .reg [⟨(some 54), .bin .add (.t 24) (.k (.I 1)), none⟩,
  ⟨(some 24), .mv (.t 54), none⟩] false
abbrev c12_27 : AC := .seq c12_25 c12_26
abbrev c12_28 : AC := .seq c12_15 c12_27
abbrev c12_29 : AC := .seq c12_14 c12_28
abbrev c12_30 : AC := .loop c12_29
abbrev c12_31 : AC := .block 0 c12_30
abbrev c12_32 : AC := .seq c12_13 c12_31
abbrev c12_33 : AC := .reg [⟨(some 55), .mv (.t 7), none⟩,
  ⟨(some 56), .bin .lss (.t 55) (.k (.I 0)), none⟩,
  ⟨(some 6), .mv (.t 56), none⟩] false
abbrev c12_34 : AC := .seq c12_33 .ret
abbrev c12_35 : AC := .seq c12_32 c12_34
abbrev c12_36 : AC := .seq c12_12 c12_35
abbrev c12_37 : AC := .seq c12_11 c12_36
abbrev c12_38 : AC := .seq c12_6 c12_37
abbrev c12_39 : AC := .seq c12_1 c12_38
abbrev c12 : AC := c12_39
theorem code12 : fnCode Try.prog 12 = some (c12, [6], 57) := by kernel_rfl
abbrev bdc (e : Bd) : List CD := [.I (e.i : Int), .I (e.j : Int), .I e.c]
abbrev bdv (e : Bd) : AV := .agg [.I (e.i : Int), .I (e.j : Int), .I e.c]
abbrev Bds (b : List Bd) : CD := .sl 3 (b.map bdc)
def rgt (n : Nat) (e : Bd) : Prop := e.i < n ∧ e.j < n ∧ e.i ≠ e.j ∧ -1000000 ≤ e.c ∧ e.c ≤ 1000000
def Rgt (n : Nat) (b : List Bd) : Prop := ∀ k, k < b.length → rgt n (nth b k)
theorem x40 (c : Int) (h : -1000000 ≤ c ∧ c ≤ 1000000) : FnR Try.prog 40 [.I c, .I 1000000] [.c (.B true)] := by
  have h1 : ((-1000000 : Int) ≤ c) = True := eq_true h.1
  have h2 : (c ≤ (1000000 : Int)) = True := eq_true h.2
  refine fn_walk code40 (by simp) ?_
  (repeat' (first | refine Both.mk ?_ ?_ | ((first | refine aw ?_ | refine aD ?_ | refine aX ?_ | refine cT ?_ | refine cF ?_); try simp (disch := omega) only [go_sem, seval, reduceCtorEq, h1, h2]) | refine aI (fun hc => ?_) fun hc => ?_ | simp (disch := omega) only [go_sem, seval, reduceCtorEq, h1, h2] | refine aO ?_ | refine aA ?_ ?_ | fail))
theorem x25 (n : Nat) (e : Bd) (h : rgt n e) : FnR Try.prog 25 [.I (n : Int), bdv e] [.c (.B true)] := by
  obtain ⟨a, b, c, d⟩ := h
  have g := x40 e.c d
  have h1 : ((0 : Int) ≤ (e.i : Int)) = True := eq_true (by omega)
  have h2 : ((e.i : Int) < (n : Int)) = True := eq_true (by omega)
  have h3 : ((0 : Int) ≤ (e.j : Int)) = True := eq_true (by omega)
  have h4 : ((e.j : Int) < (n : Int)) = True := eq_true (by omega)
  have h5 : ((e.i : Int) = (e.j : Int)) = False := eq_false (by omega)
  refine fn_walk code25 (by simp) ?_
  (repeat' (first | refine Both.mk ?_ ?_ | ((first | refine aw ?_ | refine aD ?_ | refine aX ?_ | refine cT ?_ | refine cF ?_ | refine cR (g ..) ?_ | refine cG (g ..) ?_); try simp (disch := omega) only [go_sem, seval, reduceCtorEq, h1, h2, h3, h4, h5]) | refine aI (fun hc => ?_) fun hc => ?_ | simp (disch := omega) only [go_sem, seval, reduceCtorEq, h1, h2, h3, h4, h5] | refine aO ?_ | refine aC ?_ ?_ | refine aC' ?_ ?_ | refine aA ?_ ?_ | fail))
theorem x24 (n : Nat) (e : Bd) (h : rgt n e) : FnR Try.prog 24 [bdv e, .dptr [.I (n : Int)]] [.c (.B false)] := by
  have g := x25 n e h
  refine fn_walk code24 (by simp) ?_
  (repeat' (first | refine Both.mk ?_ ?_ | ((first | refine aw ?_ | refine aD ?_ | refine aX ?_ | refine cT ?_ | refine cF ?_ | refine cR (g ..) ?_ | refine cG (g ..) ?_); try simp (disch := omega) only [go_sem, seval, reduceCtorEq]) | refine aI (fun hc => ?_) fun hc => ?_ | simp (disch := omega) only [go_sem, seval, reduceCtorEq] | refine aO ?_ | refine aC ?_ ?_ | refine aC' ?_ ?_ | refine aA ?_ ?_ | fail))
theorem x41 (n : Nat) (b : List Bd) (hl : b.length ≤ 1000) (h : Rgt n b) : FnR Try.prog 41 [.c (Bds b), .fn 24 [.dptr [.I (n : Int)]]] [.c (.I (-1))] := by
  refine fn_walk code41 (by simp) ?_
  (repeat' (first | refine Both.mk ?_ ?_ | ((first | refine aw ?_ | refine aD ?_ | refine aX ?_ | refine cT ?_ | refine cF ?_); try simp (disch := omega) only [go_sem, seval, reduceCtorEq]) | refine aI (fun hc => ?_) fun hc => ?_ | simp (disch := omega) only [go_sem, seval, reduceCtorEq] | refine aO ?_ | refine aA ?_ ?_ | fail))
  refine AW_loopK [0, 1, 7] [4, 5, 8, 9, 10, 11, 12, 13, 14, 15, 16, 17, 18] (fun i : Nat => i ≤ b.length) (fun i => [(8, .I i)]) (fun _ => []) (fun i => b.length - i) 0 (by omega) ?_ ?_
  · simp (disch := omega) only [go_sem, seval, reduceCtorEq, Int.natCast_zero]
  · intro i hi
    rcases Nat.lt_or_ge i b.length with hil | hil
    · have g := x24 n (nth b i) (h i hil)
      have hge := getD_map bdc b i [] hil
      have hkk : ((i : Int) < (b.length : Int)) = True := eq_true (by omega)
      (repeat' (first | refine Both.mk ?_ ?_ | ((first | refine aw ?_ | refine aD ?_ | refine aX ?_ | refine cT ?_ | refine cF ?_ | refine cR (g ..) ?_ | refine cG (g ..) ?_); try simp (disch := omega) only [go_sem, seval, reduceCtorEq, hge, bdc, Int.toNat_natCast, List.length_map, hkk]) | refine aI (fun hc => ?_) fun hc => ?_ | simp (disch := omega) only [go_sem, seval, reduceCtorEq, hge, bdc, Int.toNat_natCast, List.length_map, hkk] | refine aO ?_ | refine aC ?_ ?_ | refine aC' ?_ ?_ | refine aA ?_ ?_ | fail))
      refine .mk (i + 1) (by omega) (by omega) ?_
      simp (disch := omega) only [go_sem, seval, reduceCtorEq, Int.natCast_add, Int.natCast_one]
    · obtain rfl : i = b.length := by omega
      have hkk : ((b.length : Int) < (b.length : Int)) = False := eq_false (by omega)
      (repeat' (first | refine Both.mk ?_ ?_ | ((first | refine aw ?_ | refine aD ?_ | refine aX ?_ | refine cT ?_ | refine cF ?_); try simp (disch := omega) only [go_sem, seval, reduceCtorEq, List.length_map, hkk]) | refine aI (fun hc => ?_) fun hc => ?_ | simp (disch := omega) only [go_sem, seval, reduceCtorEq, List.length_map, hkk] | refine aO ?_ | refine aA ?_ ?_ | fail))
theorem x26 (n : Nat) (b : List Bd) (hl : b.length ≤ 1000) (h : Rgt n b) : FnR Try.prog 26 [.c (Bds b), .fn 24 [.dptr [.I (n : Int)]]] [.c (.B false)] := by
  have g := x41 n b hl h
  refine fn_walk code26 (by simp) ?_
  (repeat' (first | refine Both.mk ?_ ?_ | ((first | refine aw ?_ | refine aD ?_ | refine aX ?_ | refine cT ?_ | refine cF ?_ | refine cR (g ..) ?_ | refine cG (g ..) ?_); try simp (disch := omega) only [go_sem, seval, reduceCtorEq]) | refine aI (fun hc => ?_) fun hc => ?_ | simp (disch := omega) only [go_sem, seval, reduceCtorEq] | refine aO ?_ | refine aC ?_ ?_ | refine aC' ?_ ?_ | refine aA ?_ ?_ | fail))
theorem x9 (n : Nat) (hn : 1 ≤ n ∧ n ≤ 16) (b : List Bd) (hl : b.length ≤ 1000) (h : Rgt n b) : FnR Try.prog 9 [.I (n : Int), .c (Bds b)] [.c (.B (decide (b.length ≤ 80)))] := by
  have g := x26 n b hl h
  have h1 : ((1 : Int) ≤ (n : Int)) = True := eq_true (by omega)
  have h2 : ((n : Int) ≤ 16) = True := eq_true (by omega)
  by_cases h80 : b.length ≤ 80
  · have h3 : ((b.length : Int) ≤ 80) = True := eq_true (by omega)
    rw [decide_eq_true h80]
    refine fn_walk code9 (by simp) ?_
    (repeat' (first | refine Both.mk ?_ ?_ | ((first | refine aw ?_ | refine aD ?_ | refine aX ?_ | refine cT ?_ | refine cF ?_ | refine cR (g ..) ?_ | refine cG (g ..) ?_); try simp (disch := omega) only [go_sem, seval, reduceCtorEq, h1, h2, h3, List.length_map]) | refine aI (fun hc => ?_) fun hc => ?_ | simp (disch := omega) only [go_sem, seval, reduceCtorEq, h1, h2, h3, List.length_map] | refine aO ?_ | refine aC ?_ ?_ | refine aC' ?_ ?_ | refine aA ?_ ?_ | fail))
  · have h3 : ((b.length : Int) ≤ 80) = False := eq_false (by omega)
    rw [decide_eq_false h80]
    refine fn_walk code9 (by simp) ?_
    (repeat' (first | refine Both.mk ?_ ?_ | ((first | refine aw ?_ | refine aD ?_ | refine aX ?_ | refine cT ?_ | refine cF ?_); try simp (disch := omega) only [go_sem, seval, reduceCtorEq, h1, h2, h3, List.length_map]) | refine aI (fun hc => ?_) fun hc => ?_ | simp (disch := omega) only [go_sem, seval, reduceCtorEq, h1, h2, h3, List.length_map] | refine aO ?_ | refine aA ?_ ?_ | fail))
theorem x32 (b : List Bd) (i : Nat) (h : i < b.length) : FnR Try.prog 32 [.I (i : Int), .dptr [Bds b]] [.c (.B false)] := by
  have h1 : ((i : Int) < 0) = False := eq_false (by omega)
  have h2 : ((b.length : Int) ≤ (i : Int)) = False := eq_false (by omega)
  refine fn_walk code32 (by simp) ?_
  (repeat' (first | refine Both.mk ?_ ?_ | ((first | refine aw ?_ | refine aD ?_ | refine aX ?_ | refine cT ?_ | refine cF ?_); try simp (disch := omega) only [go_sem, seval, reduceCtorEq, h1, h2, List.length_map]) | refine aI (fun hc => ?_) fun hc => ?_ | simp (disch := omega) only [go_sem, seval, reduceCtorEq, h1, h2, List.length_map] | refine aO ?_ | refine aA ?_ ?_ | fail))
abbrev nc (x : Nat) : List CD := [.I (x : Int)]
abbrev NR (c : List Nat) : CD := .sl 1 (c.map nc)
theorem x47 (b : List Bd) (l : List Nat) (hl : l.length ≤ 1000) (h : ∀ i, i < l.length → nth l i < b.length) : FnR Try.prog 47 [.c (NR l), .fn 32 [.dptr [Bds b]]] [.c (.I (-1))] := by
  refine fn_walk code47 (by simp) ?_
  (repeat' (first | refine Both.mk ?_ ?_ | ((first | refine aw ?_ | refine aD ?_ | refine aX ?_ | refine cT ?_ | refine cF ?_); try simp (disch := omega) only [go_sem, seval, reduceCtorEq]) | refine aI (fun hc => ?_) fun hc => ?_ | simp (disch := omega) only [go_sem, seval, reduceCtorEq] | refine aO ?_ | refine aA ?_ ?_ | fail))
  refine AW_loopK [0, 1, 7] [4, 5, 8, 9, 10, 11, 12, 13, 14, 15, 16, 17, 18] (fun i : Nat => i ≤ l.length) (fun i => [(8, .I i)]) (fun _ => []) (fun i => l.length - i) 0 (by omega) ?_ ?_
  · simp (disch := omega) only [go_sem, seval, reduceCtorEq, Int.natCast_zero]
  · intro i hi
    rcases Nat.lt_or_ge i l.length with hil | hil
    · have g := x32 b (nth l i) (h i hil)
      have hge := getD_map nc l i [] hil
      have hkk : ((i : Int) < (l.length : Int)) = True := eq_true (by omega)
      (repeat' (first | refine Both.mk ?_ ?_ | ((first | refine aw ?_ | refine aD ?_ | refine aX ?_ | refine cT ?_ | refine cF ?_ | refine cR (g ..) ?_ | refine cG (g ..) ?_); try simp (disch := omega) only [go_sem, seval, reduceCtorEq, hge, nc, Int.toNat_natCast, List.length_map, hkk]) | refine aI (fun hc => ?_) fun hc => ?_ | simp (disch := omega) only [go_sem, seval, reduceCtorEq, hge, nc, Int.toNat_natCast, List.length_map, hkk] | refine aO ?_ | refine aC ?_ ?_ | refine aC' ?_ ?_ | refine aA ?_ ?_ | fail))
      refine .mk (i + 1) (by omega) (by omega) ?_
      simp (disch := omega) only [go_sem, seval, reduceCtorEq, Int.natCast_add, Int.natCast_one]
    · obtain rfl : i = l.length := by omega
      have hkk : ((l.length : Int) < (l.length : Int)) = False := eq_false (by omega)
      (repeat' (first | refine Both.mk ?_ ?_ | ((first | refine aw ?_ | refine aD ?_ | refine aX ?_ | refine cT ?_ | refine cF ?_); try simp (disch := omega) only [go_sem, seval, reduceCtorEq, List.length_map, hkk]) | refine aI (fun hc => ?_) fun hc => ?_ | simp (disch := omega) only [go_sem, seval, reduceCtorEq, List.length_map, hkk] | refine aO ?_ | refine aA ?_ ?_ | fail))
theorem x31 (b : List Bd) (l : List Nat) (hl : l.length ≤ 1000) (h : ∀ i, i < l.length → nth l i < b.length) : FnR Try.prog 31 [.c (NR l), .fn 32 [.dptr [Bds b]]] [.c (.B false)] := by
  have g := x47 b l hl h
  refine fn_walk code31 (by simp) ?_
  (repeat' (first | refine Both.mk ?_ ?_ | ((first | refine aw ?_ | refine aD ?_ | refine aX ?_ | refine cT ?_ | refine cF ?_ | refine cR (g ..) ?_ | refine cG (g ..) ?_); try simp (disch := omega) only [go_sem, seval, reduceCtorEq]) | refine aI (fun hc => ?_) fun hc => ?_ | simp (disch := omega) only [go_sem, seval, reduceCtorEq] | refine aO ?_ | refine aC ?_ ?_ | refine aC' ?_ ?_ | refine aA ?_ ?_ | fail))
theorem sumW_take (b : List Bd) (l : List Nat) (k : Nat) (h : k < l.length) : sumW b (l.take (k + 1)) = sumW b (l.take k) + (nth b (nth l k)).c := by
  rw [List.take_succ_eq_append_getElem h, sumW_app, nth_eq l k h]
  simp [sumW]
theorem sumW_abs {n : Nat} {b : List Bd} (h : Rgt n b) : ∀ (l : List Nat), (∀ e ∈ l, e < b.length) → -1000000 * (l.length : Int) ≤ sumW b l ∧ sumW b l ≤ 1000000 * (l.length : Int)
  | [], _ => by simp [sumW]
  | e :: l, hl => by
    have ih := sumW_abs h l fun x hx => hl x (by simp [hx])
    have := (h e (hl e (by simp))).2.2.2
    rw [sumW_cons, List.length_cons]; omega
set_option maxHeartbeats 4000000 in
theorem x12 (n : Nat) (hn : 1 ≤ n ∧ n ≤ 16) (b : List Bd) (hl : b.length ≤ 80) (h : Rgt n b) (l : List Nat) (h0 : l ≠ []) (hll : l.length ≤ 100) (hr : ∀ i, i < l.length → nth l i < b.length)
    (hc : ∀ k, k < l.length → (nth b (nth l k)).j = (nth b (nth l ((k + 1) % l.length))).i) (hs : sumW b l < 0) : FnR Try.prog 12 [.I (n : Int), .c (Bds b), .c (NR l)] [.c (.B true)] := by
  have g9 := x9 n hn b (by omega) h
  rw [decide_eq_true hl] at g9
  have g31 := x31 b l (by omega) hr
  have hlp : 0 < l.length := List.length_pos_iff.2 h0
  have hl0 : ((l.length : Int) = 0) = False := eq_false (by omega)
  refine fn_walk code12 (by simp) ?_
  (repeat' (first | refine Both.mk ?_ ?_ | ((first | refine aw ?_ | refine aD ?_ | refine aX ?_ | refine cT ?_ | refine cF ?_ | refine cR (g9 ..) ?_ | refine cG (g9 ..) ?_ | refine cR (g31 ..) ?_ | refine cG (g31 ..) ?_); try simp (disch := omega) only [go_sem, seval, reduceCtorEq, List.length_map, hl0]) | refine aI (fun hc => ?_) fun hc => ?_ | simp (disch := omega) only [go_sem, seval, reduceCtorEq, List.length_map, hl0] | refine aO ?_ | refine aC ?_ ?_ | refine aC' ?_ ?_ | refine aA ?_ ?_ | fail))
  refine AW_loopK [2, 4, 22, 23] [6, 7, 8, 9, 24, 25, 26, 27, 28, 29, 30, 31, 32, 33, 34, 35, 36, 37, 38, 39, 40, 41, 42, 43, 44, 45, 46, 47, 48, 49, 50, 51, 52, 53, 54] (fun i : Nat => i ≤ l.length) (fun i => [(7, .I (sumW b (l.take i))), (24, .I i)]) (fun _ => []) (fun i => l.length - i) 0 (by omega) ?_ ?_
  · simp (disch := omega) only [go_sem, seval, reduceCtorEq, Int.natCast_zero, List.take_zero, sumW, List.map_nil, List.sum_nil]
  · intro i hi
    rcases Nat.lt_or_ge i l.length with hil | hil
    · have hm : (i + 1) % l.length < l.length := Nat.mod_lt _ hlp
      have r1 := hr i hil
      have r2 := hr _ hm
      have hge := getD_map nc l i [] hil
      have hge2 := getD_map nc l ((i + 1) % l.length) [] hm
      have hge3 := getD_map bdc b (nth l i) [] r1
      have hge4 := getD_map bdc b (nth l ((i + 1) % l.length)) [] r2
      have hkk : ((i : Int) < (l.length : Int)) = True := eq_true (by omega)
      have hk3 : (((nth l i : Nat) : Int) < (b.length : Int)) = True := eq_true (by omega)
      have hk4 : (((nth l ((i + 1) % l.length) : Nat) : Int) < (b.length : Int)) = True := eq_true (by omega)
      have hk2 : ((((i + 1) % l.length : Nat) : Int) < (l.length : Int)) = True := eq_true (by omega)
      have hmod : ((i : Int) + 1).tmod (l.length : Int) = (((i + 1) % l.length : Nat) : Int) := by
        rw [show (i : Int) + 1 = ((i + 1 : Nat) : Int) by omega]; rfl
      have hcc : (((nth b (nth l i)).j : Int) = ((nth b (nth l ((i + 1) % l.length))).i : Int)) = True := eq_true (by rw [hc i hil])
      have hst := sumW_take b l i hil
      have hab := sumW_abs h (l.take i) fun e he => by
        obtain ⟨k, hk, rfl⟩ := List.getElem_of_mem (List.mem_of_mem_take he)
        rw [← nth_eq l k hk]; exact hr k hk
      have hcb := (h _ r1).2.2.2
      rw [List.length_take] at hab
      generalize sumW b (l.take i) = S at *
      (repeat' (first | refine Both.mk ?_ ?_ | ((first | refine aw ?_ | refine aD ?_ | refine aX ?_ | refine cT ?_ | refine cF ?_); try simp (disch := omega) only [go_sem, seval, reduceCtorEq, hge, hge2, hge3, hge4, nc, bdc, Int.toNat_natCast, List.length_map, hkk, hk2, hk3, hk4, hmod, hcc]) | refine aI (fun hc => ?_) fun hc => ?_ | simp (disch := omega) only [go_sem, seval, reduceCtorEq, hge, hge2, hge3, hge4, nc, bdc, Int.toNat_natCast, List.length_map, hkk, hk2, hk3, hk4, hmod, hcc] | refine aO ?_ | refine aA ?_ ?_ | fail))
      all_goals first | omega | skip
      refine .mk (i + 1) (by omega) (by omega) ?_
      rw [hst]
      simp (disch := omega) only [go_sem, seval, reduceCtorEq, Int.natCast_add, Int.natCast_one]
    · obtain rfl : i = l.length := by omega
      have hkk : ((l.length : Int) < (l.length : Int)) = False := eq_false (by omega)
      rw [List.take_length]
      have hs' : (sumW b l < 0) = True := eq_true hs
      (repeat' (first | refine Both.mk ?_ ?_ | ((first | refine aw ?_ | refine aD ?_ | refine aX ?_ | refine cT ?_ | refine cF ?_); try simp (disch := omega) only [go_sem, seval, reduceCtorEq, List.length_map, hkk, hs']) | refine aI (fun hc => ?_) fun hc => ?_ | simp (disch := omega) only [go_sem, seval, reduceCtorEq, List.length_map, hkk, hs'] | refine aO ?_ | refine aA ?_ ?_ | fail))
end Go.Proofs.Ytdmngdphgnnoiaa

open Go Go.AL Go.RowKit
namespace Go.Proofs.Ytdmngdphgnnoiaa
set_option maxRecDepth 20000
/- coinage/coinagetop.bounds -/
abbrev c8_1 : AC := .reg [⟨(some 1), .box 26 (some 3) (.t 0), none⟩,
  ⟨(some 2), .mv (.k (.c .nil)), none⟩] false
abbrev c8_2 : AC := .reg [⟨(some 3), .mv (.k (.c .nil)), none⟩] false
abbrev c8_3 : AC := .reg [⟨(some 9), .fad 0 (.t 1), none⟩,
  ⟨(some 10), .ld none (.t 9), none⟩,
  ⟨(some 11), .len (.t 10), none⟩,
  ⟨(some 4), .mv (.t 11), none⟩] false
abbrev c8_4 : AC := .reg [⟨(some 5), .mv (.k (.I 0)), none⟩] false
abbrev c8_5 : AC := .reg [⟨(some 12), .mv (.t 5), none⟩,
  ⟨(some 13), .mv (.t 4), none⟩,
  ⟨(some 14), .bin .lss (.t 12) (.t 13), none⟩] false
abbrev c8_6 : AC := .cond (.t 14) .skip (.exit 0)
abbrev c8_7 : AC := .seq c8_5 c8_6
def c8_8L : List AP := [⟨(some 17), .mv (.t 3), none⟩,
  ⟨(some 18), .mv (.t 5), none⟩,
  ⟨(some 19), .bin .add (.t 18) (.k (.I 1)), none⟩,
  ⟨(some 20), .fad 0 (.t 1), none⟩,
  ⟨(some 21), .ld none (.t 20), none⟩,
  ⟨(some 22), .mv (.t 5), none⟩,
  ⟨(some 23), .iad 2 (.t 21) (.t 22), none⟩,
  ⟨(some 24), .fad 1 (.t 23), none⟩,
  ⟨(some 25), .ld none (.t 24), none⟩,
  ⟨(some 26), .build [(.I 0), (.I 0), (.I 0)] [(1, 1, (.t 19)), (2, 1, (.t 25))], none⟩,
  ⟨(some 27), .mv (.t 5), none⟩,
  ⟨(some 28), .bin .add (.t 27) (.k (.I 1)), none⟩,
  ⟨(some 29), .fad 0 (.t 1), none⟩,
  ⟨(some 30), .ld none (.t 29), none⟩,
  ⟨(some 31), .mv (.t 5), none⟩,
  ⟨(some 32), .iad 2 (.t 30) (.t 31), none⟩,
  ⟨(some 33), .fad 0 (.t 32), none⟩,
  ⟨(some 34), .ld none (.t 33), none⟩,
  ⟨(some 35), .neg (.t 34), none⟩,
  ⟨(some 36), .build [(.I 0), (.I 0), (.I 0)] [(0, 1, (.t 28)), (2, 1, (.t 35))], none⟩,
  ⟨(some 37), .bslice 55 3 [(.t 26), (.t 36)], none⟩,
  ⟨(some 38), .app 55 3 24 (.t 17) (.t 37), none⟩,
  ⟨(some 3), .mv (.t 38), none⟩]
abbrev c8_8 : AC := .regG c8_8L [0, 0, 2, 0, 8, 0, 48, 64, 128, 260, 0, 1024, 0, 4096, 0, 24576, 32768, 65536, 131072, 264192, 524800, 1048577, 4194303] [0, 0, 2, 0, 8, 0, 48, 64, 128, 260, 0, 1024, 0, 4096, 0, 24576, 32768, 65536, 131072, 264192, 524800, 1048577, 2097153]
abbrev c8_9 : AC := .block 1 c8_8
abbrev c8_10 : AC := .reg [⟨(some 15), .mv (.t 5), none⟩,
  ⟨(some 16), .bin .add (.t 15) (.k (.I 1)), none⟩,
  ⟨(some 5), .mv (.t 16), none⟩] false
abbrev c8_11 : AC := .seq c8_9 c8_10
abbrev c8_12 : AC := .seq c8_7 c8_11
abbrev c8_13 : AC := .loop c8_12
abbrev c8_14 : AC := .block 0 c8_13
abbrev c8_15 : AC := .seq c8_4 c8_14
abbrev c8_16 : AC := .reg [⟨(some 6), .mv (.k (.I 0)), none⟩] false
abbrev c8_17 : AC := .reg [⟨(some 39), .mv (.t 6), none⟩,
  ⟨(some 40), .fad 1 (.t 1), none⟩,
  ⟨(some 41), .ld none (.t 40), none⟩,
  ⟨(some 42), .len (.t 41), none⟩,
  ⟨(some 43), .bin .lss (.t 39) (.t 42), none⟩] false
abbrev c8_18 : AC := .cond (.t 43) .skip (.exit 2)
abbrev c8_19 : AC := .seq c8_17 c8_18
abbrev c8_20 : AC := .reg [⟨(some 46), .fad 1 (.t 1), none⟩,
  ⟨(some 47), .ld none (.t 46), none⟩,
  ⟨(some 48), .mv (.t 6), none⟩,
  ⟨(some 49), .iad 4 (.t 47) (.t 48), none⟩,
  ⟨(some 50), .ld (some 4) (.t 49), none⟩,
  ⟨(some 7), .alloc 34 [(.I 0), (.c .nil), (.I 0), (.I 0)], none⟩,
  ⟨none, .st (some 4) (.t 7) (.t 50), none⟩] false
abbrev c8_21 : AC := .reg [⟨(some 51), .mv (.t 3), none⟩,
  ⟨(some 52), .mv (.t 4), none⟩,
  ⟨(some 53), .bin .add (.t 52) (.k (.I 1)), none⟩,
  ⟨(some 54), .mv (.t 6), none⟩,
  ⟨(some 55), .bin .add (.t 53) (.t 54), none⟩,
  ⟨(some 56), .fad 2 (.t 7), none⟩,
  ⟨(some 57), .fad 1 (.t 56), none⟩,
  ⟨(some 58), .ld none (.t 57), none⟩,
  ⟨(some 59), .build [(.I 0), (.I 0), (.I 0)] [(1, 1, (.t 55)), (2, 1, (.t 58))], none⟩,
  ⟨(some 60), .mv (.t 4), none⟩,
  ⟨(some 61), .bin .add (.t 60) (.k (.I 1)), none⟩,
  ⟨(some 62), .mv (.t 6), none⟩,
  ⟨(some 63), .bin .add (.t 61) (.t 62), none⟩,
  ⟨(some 64), .fad 2 (.t 7), none⟩,
  ⟨(some 65), .fad 0 (.t 64), none⟩,
  ⟨(some 66), .ld none (.t 65), none⟩,
  ⟨(some 67), .neg (.t 66), none⟩,
  ⟨(some 68), .build [(.I 0), (.I 0), (.I 0)] [(0, 1, (.t 63)), (2, 1, (.t 67))], none⟩,
  ⟨(some 69), .bslice 55 3 [(.t 59), (.t 68)], none⟩,
  ⟨(some 70), .app 55 3 24 (.t 51) (.t 69), none⟩,
  ⟨(some 3), .mv (.t 70), none⟩] false
abbrev c8_22 : AC := .reg [⟨(some 8), .mv (.k (.I 0)), none⟩] false
abbrev c8_23 : AC := .reg [⟨(some 71), .mv (.t 8), none⟩,
  ⟨(some 72), .fad 1 (.t 7), none⟩,
  ⟨(some 73), .ld none (.t 72), none⟩,
  ⟨(some 74), .len (.t 73), none⟩,
  ⟨(some 75), .bin .lss (.t 71) (.t 74), none⟩] false
abbrev c8_24 : AC := .cond (.t 75) .skip (.exit 4)
abbrev c8_25 : AC := .seq c8_23 c8_24
abbrev c8_26 : AC := .reg [⟨(some 78), .mv (.t 3), none⟩,
  ⟨(some 79), .mv (.t 4), none⟩,
  ⟨(some 80), .bin .add (.t 79) (.k (.I 1)), none⟩,
  ⟨(some 81), .mv (.t 6), none⟩,
  ⟨(some 82), .bin .add (.t 80) (.t 81), none⟩,
  ⟨(some 83), .fad 1 (.t 7), none⟩,
  ⟨(some 84), .ld none (.t 83), none⟩,
  ⟨(some 85), .mv (.t 8), none⟩,
  ⟨(some 86), .iad 2 (.t 84) (.t 85), none⟩,
  ⟨(some 87), .fad 0 (.t 86), none⟩,
  ⟨(some 88), .ld none (.t 87), none⟩,
  ⟨(some 89), .build [(.I 0), (.I 0), (.I 0)] [(0, 1, (.t 82)), (1, 1, (.t 88))], none⟩,
  ⟨(some 90), .bslice 55 3 [(.t 89)], none⟩,
  ⟨(some 91), .app 55 3 24 (.t 78) (.t 90), none⟩,
  ⟨(some 3), .mv (.t 91), none⟩] false
abbrev c8_27 : AC := .block 5 c8_26
abbrev c8_28 : AC := .reg [⟨(some 76), .mv (.t 8), none⟩,
  ⟨(some 77), .bin .add (.t 76) (.k (.I 1)), none⟩,
  ⟨(some 8), .mv (.t 77), none⟩] false
abbrev c8_29 : AC := .seq c8_27 c8_28
abbrev c8_30 : AC := .seq c8_25 c8_29
abbrev c8_31 : AC := .loop c8_30
abbrev c8_32 : AC := .block 4 c8_31
abbrev c8_33 : AC := .seq c8_22 c8_32
abbrev c8_34 : AC := .seq c8_21 c8_33
abbrev c8_35 : AC := .seq c8_20 c8_34
abbrev c8_36 : AC := .block 3 c8_35
abbrev c8_37 : AC := .reg [⟨(some 44), .mv (.t 6), none⟩,
  ⟨(some 45), .bin .add (.t 44) (.k (.I 1)), none⟩,
  ⟨(some 6), .mv (.t 45), none⟩] false
abbrev c8_38 : AC := .seq c8_36 c8_37
abbrev c8_39 : AC := .seq c8_19 c8_38
abbrev c8_40 : AC := .loop c8_39
abbrev c8_41 : AC := .block 2 c8_40
abbrev c8_42 : AC := .seq c8_16 c8_41
abbrev c8_43 : AC := .reg [⟨(some 92), .mv (.t 3), none⟩,
  ⟨(some 93), .fad 2 (.t 1), none⟩,
  ⟨(some 94), .ld none (.t 93), none⟩,
  ⟨(some 95), .app 55 3 24 (.t 92) (.t 94), none⟩,
  ⟨(some 2), .mv (.t 95), none⟩] false
abbrev c8_44 : AC := .seq c8_43 .ret
abbrev c8_45 : AC := .seq c8_42 c8_44
abbrev c8_46 : AC := .seq c8_15 c8_45
abbrev c8_47 : AC := .seq c8_3 c8_46
abbrev c8_48 : AC := .seq c8_2 c8_47
abbrev c8_49 : AC := .seq c8_1 c8_48
abbrev c8 : AC := c8_49
theorem code8 : fnCode Try.prog 8 = some (c8, [2], 96) := by kernel_rfl
def gB (g : Gp) : Bd := ⟨g.i.toNat, g.j.toNat, g.c⟩
def tyB (c : Ch) (i : Nat) : List Bd := [⟨0, i + 1, (nth c.ty i).2⟩, ⟨i + 1, 0, -(nth c.ty i).1⟩]
def hoB (c : Ch) (i : Nat) : List Bd := [⟨0, c.ty.length + 1 + i, (nth c.ho i).cl.2⟩, ⟨c.ty.length + 1 + i, 0, -(nth c.ho i).cl.1⟩]
def coB (c : Ch) (i k : Nat) : List Bd := ((nth c.ho i).cs.take k).map fun x => ⟨c.ty.length + 1 + i, x.1.toNat, 0⟩
def bT (c : Ch) (i : Nat) : List Bd := (List.range i).flatMap (tyB c)
def bH (c : Ch) (i : Nat) : List Bd := (List.range i).flatMap fun i => hoB c i ++ coB c i (nth c.ho i).cs.length
def bnd (c : Ch) : List Bd := bT c c.ty.length ++ bH c c.ho.length ++ c.ga.map gB
theorem bT_succ (c : Ch) (i : Nat) : bT c (i + 1) = bT c i ++ tyB c i := by
  unfold bT; rw [List.range_succ, List.flatMap_append]; simp
theorem bH_succ (c : Ch) (i : Nat) : bH c (i + 1) = bH c i ++ (hoB c i ++ coB c i (nth c.ho i).cs.length) := by
  unfold bH; rw [List.range_succ, List.flatMap_append]; simp
theorem coB_succ (c : Ch) (i k : Nat) (h : k < (nth c.ho i).cs.length) : coB c i (k + 1) = coB c i k ++ [⟨c.ty.length + 1 + i, (nth (nth c.ho i).cs k).1.toNat, 0⟩] := by
  unfold coB
  rw [List.take_succ_eq_append_getElem h, List.map_append, nth_eq _ k h]; rfl
theorem bT_len (c : Ch) (i : Nat) : (bT c i).length = 2 * i := by
  induction i with
  | zero => rfl
  | succ i ih => rw [bT_succ, List.length_append, ih]; simp [tyB]; omega
theorem vC_iff {c : Ch} : vC c = true ↔ lC c = true ∧ tC c = true ∧ oC c = true ∧ aC c = true := by
  unfold vC; simp only [Bool.and_eq_true, and_assoc]
theorem vC_len {c : Ch} (h : vC c = true) : c.ty.length ≤ 8 ∧ c.ho.length ≤ 6 ∧ c.ga.length ≤ 16 := by
  have := (vC_iff.1 h).1
  unfold lC at this
  exact of_decide_eq_true this
theorem vC_ty {c : Ch} (h : vC c = true) {i : Nat} (hi : i < c.ty.length) : (nth c.ty i).1 ≤ (nth c.ty i).2 ∧ -9999 ≤ (nth c.ty i).1 ∧ (nth c.ty i).2 ≤ 9999 := vY_iff.1 (all_get (vC_iff.1 h).2.1 hi)
theorem vC_ho {c : Ch} (h : vC c = true) {i : Nat} (hi : i < c.ho.length) : vH (nth c.ho i) = true ∧ (nth (nth c.ho i).cs ((nth c.ho i).cs.length - 1)).1 ≤ c.ty.length := by
  have := all_get (vC_iff.1 h).2.2.1 hi
  unfold hOk at this
  rw [Bool.and_eq_true, decide_eq_true_eq] at this
  exact this
theorem vC_key {c : Ch} (h : vC c = true) {i k : Nat} (hi : i < c.ho.length) (hk : k < (nth c.ho i).cs.length) : 1 ≤ (nth (nth c.ho i).cs k).1 ∧ (nth (nth c.ho i).cs k).1 ≤ c.ty.length := by
  obtain ⟨h1, h2⟩ := vC_ho h hi
  obtain ⟨_, _, h3, _⟩ := vH_iff.1 h1
  refine ⟨(lst_in h3 k hk).1, ?_⟩
  rcases Nat.eq_or_lt_of_le (show k ≤ (nth c.ho i).cs.length - 1 by omega) with he | he
  · rw [he]; exact h2
  · have := lst_lt h3 ((nth c.ho i).cs.length - 1 - k - 1) k (by omega)
    rw [show k + ((nth c.ho i).cs.length - 1 - k - 1) + 1 = (nth c.ho i).cs.length - 1 by omega] at this
    omega
theorem vC_coins {c : Ch} (h : vC c = true) {i : Nat} (hi : i < c.ho.length) : 1 ≤ (nth c.ho i).cs.length ∧ (nth c.ho i).cs.length ≤ 8 := by
  obtain ⟨h1, h2⟩ := vC_ho h hi
  obtain ⟨_, h4, h3, _⟩ := vH_iff.1 h1
  refine ⟨h4.1, ?_⟩
  have hl := vC_len h
  rcases Nat.lt_or_ge 8 (nth c.ho i).cs.length with h8 | h8
  · have := lst_lt h3 ((nth c.ho i).cs.length - 1 - 0 - 1) 0 (by omega)
    rw [show 0 + ((nth c.ho i).cs.length - 1 - 0 - 1) + 1 = (nth c.ho i).cs.length - 1 by omega] at this
    have := (lst_in h3 0 (by omega)).1
    omega
  · exact h8
theorem vC_ga {c : Ch} (h : vC c = true) {i : Nat} (hi : i < c.ga.length) : 1 ≤ (nth c.ga i).i ∧ (nth c.ga i).i ≤ c.ty.length ∧ 1 ≤ (nth c.ga i).j ∧ (nth c.ga i).j ≤ c.ty.length ∧ (nth c.ga i).i ≠ (nth c.ga i).j ∧ -20000 ≤ (nth c.ga i).c ∧ (nth c.ga i).c ≤ 20000 := by
  have := all_get (vC_iff.1 h).2.2.2 hi
  unfold gOk at this
  exact of_decide_eq_true this
theorem ga_rows {c : Ch} (h : vC c = true) : c.ga.map gpc = (c.ga.map gB).map bdc := by
  rw [List.map_map]
  refine List.map_congr_left fun g hg => ?_
  obtain ⟨i, hi, rfl⟩ := List.getElem_of_mem hg
  have := vC_ga h hi
  rw [nth_eq _ i hi] at this
  simp only [Function.comp, gpc, bdc, gB]
  rw [Int.toNat_of_nonneg (by omega), Int.toNat_of_nonneg (by omega)]
theorem tyB_rows (c : Ch) (i : Nat) : (tyB c i).map bdc = [[.I 0, .I ((i : Int) + 1), .I (nth c.ty i).2], [.I ((i : Int) + 1), .I 0, .I (-(nth c.ty i).1)]] := by
  simp [tyB, bdc]
theorem hoB_rows (c : Ch) (i : Nat) : (hoB c i).map bdc = [[.I 0, .I ((c.ty.length : Int) + 1 + i), .I (nth c.ho i).cl.2], [.I ((c.ty.length : Int) + 1 + i), .I 0, .I (-(nth c.ho i).cl.1)]] := by
  simp [hoB, bdc]
abbrev bx8 (c : Ch) : AO := .box 26 [.c (Yrs c.ty), .c (.sl 4 (c.ho.map hdc)), .c (Gps c.ga)]
structure gbTP where
  (c : Ch) (i : Nat) (rows : List (List CD))
section
variable (z : gbTP)
def gbTB (l : List (Nat × AV)) : St := ⟨96, l ++ [(1, .ptr 1 0), (3, .own 900), (4, .I (z.c.ty.length : Int)), (5, .I (z.i : Int))], [(1, bx8 z.c), (900, .arr 55 3 z.rows)]⟩
def gbT25:St:=gbTB z [(17, .own 900), (19, .I ((z.i : Int) + 1)), (24, .dptr [.I (nth z.c.ty z.i).2]), (28, .I ((z.i : Int) + 1)), (33, .dptr [.I (nth z.c.ty z.i).1, .I (nth z.c.ty z.i).2])]
def gbT31:St:=gbTB z [(17, .own 900), (26, .agg [.I 0, .I ((z.i : Int) + 1), .I (nth z.c.ty z.i).2]), (28, .I ((z.i : Int) + 1)), (33, .dptr [.I (nth z.c.ty z.i).1, .I (nth z.c.ty z.i).2])]
def gbT35:St:=gbTB z [(17, .own 900), (19, .I ((z.i : Int) + 1)), (24, .dptr [.I (nth z.c.ty z.i).2]), (36, .agg [.I ((z.i : Int) + 1), .I 0, .I (-(nth z.c.ty z.i).1)])]
def gbT38:St:=gbTB z [(17, .own 900), (26, .agg [.I 0, .I ((z.i : Int) + 1), .I (nth z.c.ty z.i).2]), (36, .agg [.I ((z.i : Int) + 1), .I 0, .I (-(nth z.c.ty z.i).1)])]
def gbT:List (Nat × St):=[(25, gbT25 z), (31, gbT31 z), (35, gbT35 z), (38, gbT38 z)]
theorem gbTl0:lookT 0 (gbT z)=none:=rfl
theorem gbTl1:lookT 1 (gbT z)=none:=rfl
theorem gbTl2:lookT 2 (gbT z)=none:=rfl
theorem gbTl3:lookT 3 (gbT z)=none:=rfl
theorem gbTl4:lookT 4 (gbT z)=none:=rfl
theorem gbTl5:lookT 5 (gbT z)=none:=rfl
theorem gbTl6:lookT 6 (gbT z)=none:=rfl
theorem gbTl7:lookT 7 (gbT z)=none:=rfl
theorem gbTl8:lookT 8 (gbT z)=none:=rfl
theorem gbTl9:lookT 9 (gbT z)=none:=rfl
theorem gbTl10:lookT 10 (gbT z)=none:=rfl
theorem gbTl11:lookT 11 (gbT z)=none:=rfl
theorem gbTl12:lookT 12 (gbT z)=none:=rfl
theorem gbTl13:lookT 13 (gbT z)=none:=rfl
theorem gbTl14:lookT 14 (gbT z)=none:=rfl
theorem gbTl15:lookT 15 (gbT z)=none:=rfl
theorem gbTl16:lookT 16 (gbT z)=none:=rfl
theorem gbTl17:lookT 17 (gbT z)=none:=rfl
theorem gbTl18:lookT 18 (gbT z)=none:=rfl
theorem gbTl19:lookT 19 (gbT z)=none:=rfl
theorem gbTl20:lookT 20 (gbT z)=none:=rfl
theorem gbTl21:lookT 21 (gbT z)=none:=rfl
theorem gbTl22:lookT 22 (gbT z)=none:=rfl
theorem gbTl23:lookT 23 (gbT z)=none:=rfl
theorem gbTl24:lookT 24 (gbT z)=none:=rfl
theorem gbTl25:lookT 25 (gbT z)=some (gbT25 z):=rfl
theorem gbTl26:lookT 26 (gbT z)=none:=rfl
theorem gbTl27:lookT 27 (gbT z)=none:=rfl
theorem gbTl28:lookT 28 (gbT z)=none:=rfl
theorem gbTl29:lookT 29 (gbT z)=none:=rfl
theorem gbTl30:lookT 30 (gbT z)=none:=rfl
theorem gbTl31:lookT 31 (gbT z)=some (gbT31 z):=rfl
theorem gbTl32:lookT 32 (gbT z)=none:=rfl
theorem gbTl33:lookT 33 (gbT z)=none:=rfl
theorem gbTl34:lookT 34 (gbT z)=none:=rfl
theorem gbTl35:lookT 35 (gbT z)=some (gbT35 z):=rfl
theorem gbTl36:lookT 36 (gbT z)=none:=rfl
theorem gbTl37:lookT 37 (gbT z)=none:=rfl
theorem gbTl38:lookT 38 (gbT z)=some (gbT38 z):=rfl
theorem gbTl39:lookT 39 (gbT z)=none:=rfl
theorem gbTl40:lookT 40 (gbT z)=none:=rfl
theorem gbTl41:lookT 41 (gbT z)=none:=rfl
end
def gbTG:List GN:=[.one 0 1, .one 1 2, .one 2 3, .one 3 4, .one 5 5, .one 10 6, .one 11 7, .one 12 8, .one 14 9, .all [(4, 10), (13, 11)], .one 6 12, .one 15 13, .one 7 14, .one 16 15, .all [(8, 16), (13, 17)], .all [(4, 18), (17, 19)], .one 9 20, .one 15 21, .one 6 22, .one 18 23, .all [(13, 24)], .one 16 25, .one 7 25, .one 19 26, .one 15 27, .all [(8, 28), (17, 29)], .all [(4, 30)], .one 16 31, .one 9 31, .one 18 32, .one 6 33, .all [(17, 34)], .one 19 35, .one 7 35, .one 18 36, .all [(8, 37)], .one 19 38, .one 9 38, .all [(20, 39)], .all [(21, 40)], .one 22 41, .fin]
abbrev gbTM:List Nat:=[0, 1, 3, 7, 15, 47, 1071, 3119, 7215, 23599, 23615, 31791, 23679, 64559, 23807, 130095, 24063, 31999, 130111, 261167, 24575, 64767, 130175, 523311, 32767, 130303, 1047599, 65535, 130559, 261375, 1047615, 131071, 523519, 1047679, 262143, 1047807, 524287, 1048063, 1048575, 2097151, 4194303, 8388607]
theorem gbTg0:nthG gbTG 0=some (.one 0 1):=rfl
theorem gbTg1:nthG gbTG 1=some (.one 1 2):=rfl
theorem gbTg2:nthG gbTG 2=some (.one 2 3):=rfl
theorem gbTg3:nthG gbTG 3=some (.one 3 4):=rfl
theorem gbTg4:nthG gbTG 4=some (.one 5 5):=rfl
theorem gbTg5:nthG gbTG 5=some (.one 10 6):=rfl
theorem gbTg6:nthG gbTG 6=some (.one 11 7):=rfl
theorem gbTg7:nthG gbTG 7=some (.one 12 8):=rfl
theorem gbTg8:nthG gbTG 8=some (.one 14 9):=rfl
theorem gbTg9:nthG gbTG 9=some (.all [(4, 10), (13, 11)]):=rfl
theorem gbTg10:nthG gbTG 10=some (.one 6 12):=rfl
theorem gbTg11:nthG gbTG 11=some (.one 15 13):=rfl
theorem gbTg12:nthG gbTG 12=some (.one 7 14):=rfl
theorem gbTg13:nthG gbTG 13=some (.one 16 15):=rfl
theorem gbTg14:nthG gbTG 14=some (.all [(8, 16), (13, 17)]):=rfl
theorem gbTg15:nthG gbTG 15=some (.all [(4, 18), (17, 19)]):=rfl
theorem gbTg16:nthG gbTG 16=some (.one 9 20):=rfl
theorem gbTg17:nthG gbTG 17=some (.one 15 21):=rfl
theorem gbTg18:nthG gbTG 18=some (.one 6 22):=rfl
theorem gbTg19:nthG gbTG 19=some (.one 18 23):=rfl
theorem gbTg20:nthG gbTG 20=some (.all [(13, 24)]):=rfl
theorem gbTg21:nthG gbTG 21=some (.one 16 25):=rfl
theorem gbTg22:nthG gbTG 22=some (.one 7 25):=rfl
theorem gbTg23:nthG gbTG 23=some (.one 19 26):=rfl
theorem gbTg24:nthG gbTG 24=some (.one 15 27):=rfl
theorem gbTg25:nthG gbTG 25=some (.all [(8, 28), (17, 29)]):=rfl
theorem gbTg26:nthG gbTG 26=some (.all [(4, 30)]):=rfl
theorem gbTg27:nthG gbTG 27=some (.one 16 31):=rfl
theorem gbTg28:nthG gbTG 28=some (.one 9 31):=rfl
theorem gbTg29:nthG gbTG 29=some (.one 18 32):=rfl
theorem gbTg30:nthG gbTG 30=some (.one 6 33):=rfl
theorem gbTg31:nthG gbTG 31=some (.all [(17, 34)]):=rfl
theorem gbTg32:nthG gbTG 32=some (.one 19 35):=rfl
theorem gbTg33:nthG gbTG 33=some (.one 7 35):=rfl
theorem gbTg34:nthG gbTG 34=some (.one 18 36):=rfl
theorem gbTg35:nthG gbTG 35=some (.all [(8, 37)]):=rfl
theorem gbTg36:nthG gbTG 36=some (.one 19 38):=rfl
theorem gbTg37:nthG gbTG 37=some (.one 9 38):=rfl
theorem gbTg38:nthG gbTG 38=some (.all [(20, 39)]):=rfl
theorem gbTg39:nthG gbTG 39=some (.all [(21, 40)]):=rfl
theorem gbTg40:nthG gbTG 40=some (.one 22 41):=rfl
theorem gbTg41:nthG gbTG 41=some (.fin):=rfl
section
variable (P : Program) (K : St → Prop) (σ : St)
theorem gbTs0:atS P K c8_8L 0 σ=sGuard P K σ (some 17) (.mv (.t 3)) none (guardOf σ none):=rfl
theorem gbTo0:atO K c8_8L 0 σ=SFg K σ (some 17) (.mv (.t 3)) none (guardOf σ none):=by unfold c8_8L; simp only [atO_zero, atO_succ]
theorem gbTs1:atS P K c8_8L 1 σ=sGuard P K σ (some 18) (.mv (.t 5)) none (guardOf σ none):=rfl
theorem gbTo1:atO K c8_8L 1 σ=SFg K σ (some 18) (.mv (.t 5)) none (guardOf σ none):=by unfold c8_8L; simp only [atO_zero, atO_succ]
theorem gbTs2:atS P K c8_8L 2 σ=sGuard P K σ (some 19) (.bin .add (.t 18) (.k (.I 1))) none (guardOf σ none):=rfl
theorem gbTo2:atO K c8_8L 2 σ=SFg K σ (some 19) (.bin .add (.t 18) (.k (.I 1))) none (guardOf σ none):=by unfold c8_8L; simp only [atO_zero, atO_succ]
theorem gbTs3:atS P K c8_8L 3 σ=sGuard P K σ (some 20) (.fad 0 (.t 1)) none (guardOf σ none):=rfl
theorem gbTo3:atO K c8_8L 3 σ=SFg K σ (some 20) (.fad 0 (.t 1)) none (guardOf σ none):=by unfold c8_8L; simp only [atO_zero, atO_succ]
theorem gbTs4:atS P K c8_8L 4 σ=sGuard P K σ (some 21) (.ld none (.t 20)) none (guardOf σ none):=rfl
theorem gbTs5:atS P K c8_8L 5 σ=sGuard P K σ (some 22) (.mv (.t 5)) none (guardOf σ none):=rfl
theorem gbTo5:atO K c8_8L 5 σ=SFg K σ (some 22) (.mv (.t 5)) none (guardOf σ none):=by unfold c8_8L; simp only [atO_zero, atO_succ]
theorem gbTs6:atS P K c8_8L 6 σ=sGuard P K σ (some 23) (.iad 2 (.t 21) (.t 22)) none (guardOf σ none):=rfl
theorem gbTo6:atO K c8_8L 6 σ=SFg K σ (some 23) (.iad 2 (.t 21) (.t 22)) none (guardOf σ none):=by unfold c8_8L; simp only [atO_zero, atO_succ]
theorem gbTs7:atS P K c8_8L 7 σ=sGuard P K σ (some 24) (.fad 1 (.t 23)) none (guardOf σ none):=rfl
theorem gbTo7:atO K c8_8L 7 σ=SFg K σ (some 24) (.fad 1 (.t 23)) none (guardOf σ none):=by unfold c8_8L; simp only [atO_zero, atO_succ]
theorem gbTs8:atS P K c8_8L 8 σ=sGuard P K σ (some 25) (.ld none (.t 24)) none (guardOf σ none):=rfl
theorem gbTs9:atS P K c8_8L 9 σ=sGuard P K σ (some 26) (.build [(.I 0), (.I 0), (.I 0)] [(1, 1, (.t 19)), (2, 1, (.t 25))]) none (guardOf σ none):=rfl
theorem gbTo9:atO K c8_8L 9 σ=SFg K σ (some 26) (.build [(.I 0), (.I 0), (.I 0)] [(1, 1, (.t 19)), (2, 1, (.t 25))]) none (guardOf σ none):=by unfold c8_8L; simp only [atO_zero, atO_succ]
theorem gbTs10:atS P K c8_8L 10 σ=sGuard P K σ (some 27) (.mv (.t 5)) none (guardOf σ none):=rfl
theorem gbTo10:atO K c8_8L 10 σ=SFg K σ (some 27) (.mv (.t 5)) none (guardOf σ none):=by unfold c8_8L; simp only [atO_zero, atO_succ]
theorem gbTs11:atS P K c8_8L 11 σ=sGuard P K σ (some 28) (.bin .add (.t 27) (.k (.I 1))) none (guardOf σ none):=rfl
theorem gbTo11:atO K c8_8L 11 σ=SFg K σ (some 28) (.bin .add (.t 27) (.k (.I 1))) none (guardOf σ none):=by unfold c8_8L; simp only [atO_zero, atO_succ]
theorem gbTs12:atS P K c8_8L 12 σ=sGuard P K σ (some 29) (.fad 0 (.t 1)) none (guardOf σ none):=rfl
theorem gbTo12:atO K c8_8L 12 σ=SFg K σ (some 29) (.fad 0 (.t 1)) none (guardOf σ none):=by unfold c8_8L; simp only [atO_zero, atO_succ]
theorem gbTs13:atS P K c8_8L 13 σ=sGuard P K σ (some 30) (.ld none (.t 29)) none (guardOf σ none):=rfl
theorem gbTs14:atS P K c8_8L 14 σ=sGuard P K σ (some 31) (.mv (.t 5)) none (guardOf σ none):=rfl
theorem gbTo14:atO K c8_8L 14 σ=SFg K σ (some 31) (.mv (.t 5)) none (guardOf σ none):=by unfold c8_8L; simp only [atO_zero, atO_succ]
theorem gbTs15:atS P K c8_8L 15 σ=sGuard P K σ (some 32) (.iad 2 (.t 30) (.t 31)) none (guardOf σ none):=rfl
theorem gbTo15:atO K c8_8L 15 σ=SFg K σ (some 32) (.iad 2 (.t 30) (.t 31)) none (guardOf σ none):=by unfold c8_8L; simp only [atO_zero, atO_succ]
theorem gbTs16:atS P K c8_8L 16 σ=sGuard P K σ (some 33) (.fad 0 (.t 32)) none (guardOf σ none):=rfl
theorem gbTo16:atO K c8_8L 16 σ=SFg K σ (some 33) (.fad 0 (.t 32)) none (guardOf σ none):=by unfold c8_8L; simp only [atO_zero, atO_succ]
theorem gbTs17:atS P K c8_8L 17 σ=sGuard P K σ (some 34) (.ld none (.t 33)) none (guardOf σ none):=rfl
theorem gbTs18:atS P K c8_8L 18 σ=sGuard P K σ (some 35) (.neg (.t 34)) none (guardOf σ none):=rfl
theorem gbTo18:atO K c8_8L 18 σ=SFg K σ (some 35) (.neg (.t 34)) none (guardOf σ none):=by unfold c8_8L; simp only [atO_zero, atO_succ]
theorem gbTs19:atS P K c8_8L 19 σ=sGuard P K σ (some 36) (.build [(.I 0), (.I 0), (.I 0)] [(0, 1, (.t 28)), (2, 1, (.t 35))]) none (guardOf σ none):=rfl
theorem gbTo19:atO K c8_8L 19 σ=SFg K σ (some 36) (.build [(.I 0), (.I 0), (.I 0)] [(0, 1, (.t 28)), (2, 1, (.t 35))]) none (guardOf σ none):=by unfold c8_8L; simp only [atO_zero, atO_succ]
theorem gbTs20:atS P K c8_8L 20 σ=sGuard P K σ (some 37) (.bslice 55 3 [(.t 26), (.t 36)]) none (guardOf σ none):=rfl
theorem gbTs21:atS P K c8_8L 21 σ=sGuard P K σ (some 38) (.app 55 3 24 (.t 17) (.t 37)) none (guardOf σ none):=rfl
theorem gbTs22:atS P K c8_8L 22 σ=sGuard P K σ (some 3) (.mv (.t 38)) none (guardOf σ none):=rfl
theorem gbTo22:atO K c8_8L 22 σ=SFg K σ (some 3) (.mv (.t 38)) none (guardOf σ none):=by unfold c8_8L; simp only [atO_zero, atO_succ]
end
attribute [go_sem] gbTB gbT25 gbT31 gbT35 gbT38 gbTl0 gbTl1 gbTl2 gbTl3 gbTl4 gbTl5 gbTl6 gbTl7 gbTl8 gbTl9 gbTl10 gbTl11 gbTl12 gbTl13 gbTl14 gbTl15 gbTl16 gbTl17 gbTl18 gbTl19 gbTl20 gbTl21 gbTl22 gbTl23 gbTl24 gbTl25 gbTl26 gbTl27 gbTl28 gbTl29 gbTl30 gbTl31 gbTl32 gbTl33 gbTl34 gbTl35 gbTl36 gbTl37 gbTl38 gbTl39 gbTl40 gbTl41 gbTg0 gbTg1 gbTg2 gbTg3 gbTg4 gbTg5 gbTg6 gbTg7 gbTg8 gbTg9 gbTg10 gbTg11 gbTg12 gbTg13 gbTg14 gbTg15 gbTg16 gbTg17 gbTg18 gbTg19 gbTg20 gbTg21 gbTg22 gbTg23 gbTg24 gbTg25 gbTg26 gbTg27 gbTg28 gbTg29 gbTg30 gbTg31 gbTg32 gbTg33 gbTg34 gbTg35 gbTg36 gbTg37 gbTg38 gbTg39 gbTg40 gbTg41 gbTs0 gbTo0 gbTs1 gbTo1 gbTs2 gbTo2 gbTs3 gbTo3 gbTs4 gbTs5 gbTo5 gbTs6 gbTo6 gbTs7 gbTo7 gbTs8 gbTs9 gbTo9 gbTs10 gbTo10 gbTs11 gbTo11 gbTs12 gbTo12 gbTs13 gbTs14 gbTo14 gbTs15 gbTo15 gbTs16 gbTo16 gbTs17 gbTs18 gbTo18 gbTs19 gbTo19 gbTs20 gbTs21 gbTs22 gbTo22
def in8 (c : Ch) (i : Nat) (rows : List (List CD)) : St := ⟨96, [(1, .ptr 1 0), (3, .own 900), (4, .I (c.ty.length : Int)), (5, .I (i : Int))], [(1, bx8 c), (900, .arr 55 3 rows)]⟩
set_option maxHeartbeats 40000000 in
theorem r8p (z : gbTP) (hi : z.i < z.c.ty.length) (hv : vC z.c = true) (hr : z.rows.length ≤ 1000) : AW Try.prog c8_8 (cutQ (in8 z.c z.i (z.rows ++ [[.I 0, .I ((z.i : Int) + 1), .I (nth z.c.ty z.i).2], [.I ((z.i : Int) + 1), .I 0, .I (-(nth z.c.ty z.i).1)]]))) (in8 z.c z.i z.rows) := by
  have h1 := vC_ty hv hi
  have hl := vC_len hv
  have hge := getD_map yc z.c.ty z.i [] hi
  have hkk : ((z.i : Int) < (z.c.ty.length : Int)) = True := eq_true (by omega)
  refine AW_regG (gbT z) gbTM gbTG (by kernel_rfl) (by kernel_rfl) (Both.mk ?_ ?_)
  · unfold in8
    (repeat' (first | refine Both.mk ?_ ?_ | ((first | refine aw ?_ | refine aD ?_ | refine aX ?_ | refine cT ?_ | refine cF ?_); try simp (disch := omega) only [go_sem, seval, reduceCtorEq, hge, yc, hkk, Int.toNat_natCast, List.length_map, maxLen, Int.zero_sub]) | refine aI (fun hc => ?_) fun hc => ?_ | simp (disch := omega) only [go_sem, seval, reduceCtorEq, hge, yc, hkk, Int.toNat_natCast, List.length_map, maxLen, Int.zero_sub] | refine aO ?_ | refine aA ?_ ?_ | fail))
    all_goals first | omega | skip
  · unfold gbT
    (repeat' (first | refine Both.mk ?_ ?_ | ((first | refine aw ?_ | refine aD ?_ | refine aX ?_ | refine cT ?_ | refine cF ?_); try simp (disch := omega) only [go_sem, seval, reduceCtorEq, in8, knotsP_nil, knotsP_cons, hge, yc, hkk, Int.toNat_natCast, List.length_map, maxLen, Int.zero_sub]) | refine aI (fun hc => ?_) fun hc => ?_ | simp (disch := omega) only [go_sem, seval, reduceCtorEq, in8, knotsP_nil, knotsP_cons, hge, yc, hkk, Int.toNat_natCast, List.length_map, maxLen, Int.zero_sub] | refine aO ?_ | refine aA ?_ ?_ | fail))
    all_goals first | omega | skip
theorem r8 (c : Ch) (i : Nat) (rows : List (List CD)) (hi : i < c.ty.length) (hv : vC c = true) (hr : rows.length ≤ 1000) : AW Try.prog c8_8 (cutQ (in8 c i (rows ++ [[.I 0, .I ((i : Int) + 1), .I (nth c.ty i).2], [.I ((i : Int) + 1), .I 0, .I (-(nth c.ty i).1)]]))) (in8 c i rows) := r8p ⟨c, i, rows⟩ hi hv hr
theorem bH_len (c : Ch) (hv : vC c = true) : ∀ i, i ≤ c.ho.length → (bH c i).length ≤ 10 * i
  | 0, _ => by simp [bH]
  | i + 1, h => by
    have ih := bH_len c hv i (by omega)
    have := vC_coins hv (i := i) (by omega)
    rw [bH_succ, List.length_append, List.length_append]
    simp only [hoB, coB, List.length_cons, List.length_nil, List.length_map, List.length_take]
    omega
theorem hold8 {Q : Exit → St → Prop} {σ : St} (h : Hold (AW Try.prog c8_8 Q σ)) : AW Try.prog c8_8 Q σ := h.out
set_option maxHeartbeats 4000000 in
theorem x8 (c : Ch) (hv : vC c = true) : FnR Try.prog 8 [chv c] [.own 55 3 ((bnd c).map bdc)] := by
  have hl := vC_len hv
  refine fn_walk code8 (by simp) ?_
  (repeat' (first | refine Both.mk ?_ ?_ | ((first | refine aw ?_ | refine aD ?_ | refine aX ?_ | refine cT ?_ | refine cF ?_); try simp (disch := omega) only [go_sem, seval, reduceCtorEq, List.length_map]) | refine aI (fun hc => ?_) fun hc => ?_ | simp (disch := omega) only [go_sem, seval, reduceCtorEq, List.length_map] | refine aO ?_ | refine aA ?_ ?_ | fail))
  refine AW_nil 3 900 55 3 (by rfl) ?_
  refine AW_loopK [1, 4] [3, 5, 12, 13, 14, 15, 16, 17, 18, 19, 20, 21, 22, 23, 24, 25, 26, 27, 28, 29, 30, 31, 32, 33, 34, 35, 36, 37, 38] (fun i : Nat => i ≤ c.ty.length) (fun i => [(3, .own 900), (5, .I i)]) (fun i => [(900, .arr 55 3 ((bT c i).map bdc))]) (fun i => c.ty.length - i) 0 (by omega) ?_ ?_
  · simp (disch := omega) only [go_sem, seval, reduceCtorEq, Int.natCast_zero, bT, List.range_zero, List.flatMap_nil, List.map_nil]
  · intro i hi
    rcases Nat.lt_or_ge i c.ty.length with hil | hil
    · have hkk : ((i : Int) < (c.ty.length : Int)) = True := eq_true (by omega)
      have hbl := bT_len c i
      have g := r8 c i ((bT c i).map bdc) hil hv (by rw [List.length_map]; omega)
      rw [← tyB_rows, ← List.map_append, ← bT_succ] at g
      (repeat' (first | (with_reducible refine hold8 ?_) | refine Both.mk ?_ ?_ | ((first | refine aw ?_ | refine aD ?_ | refine aX ?_ | refine cT ?_ | refine cF ?_); try simp (disch := omega) only [go_sem, seval, reduceCtorEq, hkk, List.length_map]) | refine aI (fun hc => ?_) fun hc => ?_ | simp (disch := omega) only [go_sem, seval, reduceCtorEq, hkk, List.length_map] | refine aO ?_ | refine aA ?_ ?_ | fail))
      refine ⟨AW_cut (in8 c i ((bT c (i + 1)).map bdc)) (in8 c i ((bT c i).map bdc)) g ?_ ?_⟩
      · unfold in8
        simp (disch := omega) only [go_sem, seval, reduceCtorEq]
      · unfold in8
        (repeat' (first | refine Both.mk ?_ ?_ | ((first | refine aw ?_ | refine aD ?_ | refine aX ?_ | refine cT ?_ | refine cF ?_); try simp (disch := omega) only [go_sem, seval, reduceCtorEq]) | refine aI (fun hc => ?_) fun hc => ?_ | simp (disch := omega) only [go_sem, seval, reduceCtorEq] | refine aO ?_ | refine aA ?_ ?_ | fail))
        refine .mk (i + 1) (by omega) (by omega) ?_
        simp (disch := omega) only [go_sem, seval, reduceCtorEq, Int.natCast_add, Int.natCast_one]
    · obtain rfl : i = c.ty.length := by omega
      have hkk : ((c.ty.length : Int) < (c.ty.length : Int)) = False := eq_false (by omega)
      have hbl := bT_len c c.ty.length
      (repeat' (first | refine Both.mk ?_ ?_ | ((first | refine aw ?_ | refine aD ?_ | refine aX ?_ | refine cT ?_ | refine cF ?_); try simp (disch := omega) only [go_sem, seval, reduceCtorEq, List.length_map, hkk]) | refine aI (fun hc => ?_) fun hc => ?_ | simp (disch := omega) only [go_sem, seval, reduceCtorEq, List.length_map, hkk] | refine aO ?_ | refine aA ?_ ?_ | fail))
      refine AW_loopK [1, 4] [3, 6, 7, 8, 39, 40, 41, 42, 43, 44, 45, 46, 47, 48, 49, 50, 51, 52, 53, 54, 55, 56, 57, 58, 59, 60, 61, 62, 63, 64, 65, 66, 67, 68, 69, 70, 71, 72, 73, 74, 75, 76, 77, 78, 79, 80, 81, 82, 83, 84, 85, 86, 87, 88, 89, 90, 91] (fun i : Nat => i ≤ c.ho.length) (fun i => [(3, .own 900), (6, .I i)]) (fun i => [(900, .arr 55 3 ((bT c c.ty.length ++ bH c i).map bdc))]) (fun i => c.ho.length - i) 0 (by omega) ?_ ?_
      · simp (disch := omega) only [go_sem, seval, reduceCtorEq, Int.natCast_zero, bH, List.range_zero, List.flatMap_nil, List.append_nil]
      · intro i hi
        have hhl := bH_len c hv i hi
        rcases Nat.lt_or_ge i c.ho.length with hil | hil
        · have hge := getD_map hdc c.ho i [] hil
          have hkk : ((i : Int) < (c.ho.length : Int)) = True := eq_true (by omega)
          obtain ⟨w1, _⟩ := vC_ho hv hil
          obtain ⟨_, _, _, w2⟩ := vH_iff.1 w1
          have w3 := vY_iff.1 w2
          have w4 := vC_coins hv hil
          have hlen : ((bT c c.ty.length ++ bH c i).map bdc).length ≤ 100 := by rw [List.length_map, List.length_append]; omega
          generalize hB : (bT c c.ty.length ++ bH c i).map bdc = B at *
          (repeat' (first | refine Both.mk ?_ ?_ | ((first | refine aw ?_ | refine aD ?_ | refine aX ?_ | refine cT ?_ | refine cF ?_); try simp (disch := omega) only [go_sem, seval, reduceCtorEq, hge, hdc, Int.toNat_natCast, List.length_map, hkk, maxLen, Int.zero_sub]) | refine aI (fun hc => ?_) fun hc => ?_ | simp (disch := omega) only [go_sem, seval, reduceCtorEq, hge, hdc, Int.toNat_natCast, List.length_map, hkk, maxLen, Int.zero_sub] | refine aO ?_ | refine aA ?_ ?_ | fail))
          all_goals first | omega | skip
          refine AW_loopK [1, 4, 6, 7] [3, 8, 71, 72, 73, 74, 75, 76, 77, 78, 79, 80, 81, 82, 83, 84, 85, 86, 87, 88, 89, 90, 91] (fun k : Nat => k ≤ (nth c.ho i).cs.length) (fun k => [(3, .own 900), (8, .I k)]) (fun k => [(7, .box 34 [.I (nth c.ho i).id, .c (Yrs (nth c.ho i).cs), .I (nth c.ho i).cl.1, .I (nth c.ho i).cl.2]), (900, .arr 55 3 (B ++ (hoB c i).map bdc ++ (coB c i k).map bdc))]) (fun k => (nth c.ho i).cs.length - k) 0 (by omega) ?_ ?_
          · rw [hoB_rows]
            simp (disch := omega) only [go_sem, seval, reduceCtorEq, Int.natCast_zero, coB, List.take_zero, List.map_nil, List.append_nil]
          · intro k hk
            have hcl : ((coB c i k).map bdc).length ≤ 8 := by simp only [coB, List.length_map, List.length_take]; omega
            have hol : ((hoB c i).map bdc).length = 2 := by simp [hoB]
            rcases Nat.lt_or_ge k (nth c.ho i).cs.length with hkl | hkl
            · have hge2 := getD_map yc (nth c.ho i).cs k [] hkl
              have hkk2 : ((k : Int) < ((nth c.ho i).cs.length : Int)) = True := eq_true (by omega)
              have w5 := vC_key hv hil hkl
              have hco : (coB c i (k + 1)).map bdc = (coB c i k).map bdc ++ [[.I ((c.ty.length : Int) + 1 + i), .I (nth (nth c.ho i).cs k).1, .I 0]] := by
                rw [coB_succ c i k hkl, List.map_append]
                simp only [List.map_cons, List.map_nil, bdc]
                rw [Int.toNat_of_nonneg (by omega)]
                simp
              have hB2 : ((B ++ (hoB c i).map bdc ++ (coB c i k).map bdc)).length ≤ 110 := by rw [List.length_append, List.length_append]; omega
              have hB3 : B ++ (hoB c i).map bdc ++ (coB c i (k + 1)).map bdc = (B ++ (hoB c i).map bdc ++ (coB c i k).map bdc) ++ [[.I ((c.ty.length : Int) + 1 + i), .I (nth (nth c.ho i).cs k).1, .I 0]] := by rw [hco, ← List.append_assoc]
              generalize B ++ (hoB c i).map bdc ++ (coB c i k).map bdc = D at *
              (repeat' (first | refine Both.mk ?_ ?_ | ((first | refine aw ?_ | refine aD ?_ | refine aX ?_ | refine cT ?_ | refine cF ?_); try simp (disch := omega) only [go_sem, seval, reduceCtorEq, hge2, yc, Int.toNat_natCast, List.length_map, hkk2, maxLen]) | refine aI (fun hc => ?_) fun hc => ?_ | simp (disch := omega) only [go_sem, seval, reduceCtorEq, hge2, yc, Int.toNat_natCast, List.length_map, hkk2, maxLen] | refine aO ?_ | refine aA ?_ ?_ | fail))
              all_goals first | omega | skip
              refine .mk (k + 1) (by omega) (by omega) ?_
              rw [hB3]
              simp (disch := omega) only [go_sem, seval, reduceCtorEq, Int.natCast_add, Int.natCast_one]
            · obtain rfl : k = (nth c.ho i).cs.length := by omega
              have hkk2 : (((nth c.ho i).cs.length : Int) < ((nth c.ho i).cs.length : Int)) = False := eq_false (by omega)
              (repeat' (first | refine Both.mk ?_ ?_ | ((first | refine aw ?_ | refine aD ?_ | refine aX ?_ | refine cT ?_ | refine cF ?_); try simp (disch := omega) only [go_sem, seval, reduceCtorEq, List.length_map, hkk2]) | refine aI (fun hc => ?_) fun hc => ?_ | simp (disch := omega) only [go_sem, seval, reduceCtorEq, List.length_map, hkk2] | refine aO ?_ | refine aA ?_ ?_ | fail))
              refine .mk (i + 1) (by omega) (by omega) ?_
              rw [bH_succ, ← List.append_assoc, ← List.append_assoc, List.map_append, List.map_append, hB]
              simp (disch := omega) only [go_sem, seval, reduceCtorEq, Int.natCast_add, Int.natCast_one]
        · obtain rfl : i = c.ho.length := by omega
          have hkk : ((c.ho.length : Int) < (c.ho.length : Int)) = False := eq_false (by omega)
          have hgr := ga_rows hv
          have hlen : ((bT c c.ty.length ++ bH c c.ho.length).map bdc).length ≤ 100 := by rw [List.length_map, List.length_append]; omega
          unfold bnd
          rw [List.map_append, ← hgr]
          generalize (bT c c.ty.length ++ bH c c.ho.length).map bdc = B at *
          (repeat' (first | refine Both.mk ?_ ?_ | ((first | refine aw ?_ | refine aD ?_ | refine aX ?_ | refine cT ?_ | refine cF ?_); try simp (disch := omega) only [go_sem, seval, reduceCtorEq, List.length_map, hkk, maxLen]) | refine aI (fun hc => ?_) fun hc => ?_ | simp (disch := omega) only [go_sem, seval, reduceCtorEq, List.length_map, hkk, maxLen] | refine aO ?_ | refine aA ?_ ?_ | fail))
          all_goals first | omega | skip
end Go.Proofs.Ytdmngdphgnnoiaa

namespace Go.Proofs
open Go.Shelf
open Go.RowKit Go.Lib in
def Try.lays212_ren : Go.Shelf.Ren := ⟨fun | 212 => 49 | 263 => 50 | 264 => 51 | n => n, fun | 46 => 89 | 51 => 92 | 146 => 93 | 53 => 95 | 148 => 96 | n => n, fun | n => n⟩
theorem Try.lays212 : Go.Proofs.Lays.n212 Try.prog Try.lays212_ren := {
  mixed := by kernel_rfl
  f212 := Try.func49.trans (congrArg some (by kernel_rfl))
  f263 := Try.func50.trans (congrArg some (by kernel_rfl))
  f264 := Try.func51.trans (congrArg some (by kernel_rfl))
  t46 := Try.underlying89
  a46 := Try.isAgg89
  z46 := Try.sizeOf89
  v46 := Try.zeroValue89
  t51 := Try.underlying92
  a51 := Try.isAgg92
  z51 := Try.sizeOf92
  v51 := Try.zeroValue92
  t53 := Try.underlying95
  a53 := Try.isAgg95
  z53 := Try.sizeOf95
  v53 := Try.zeroValue95
  t146 := Try.underlying93
  a146 := Try.isAgg93
  z146 := Try.sizeOf93
  v146 := Try.zeroValue93
  t148 := Try.underlying96
  a148 := Try.isAgg96
  z148 := Try.sizeOf96
  v148 := Try.zeroValue96 }
open Go.RowKit Go.Lib in
theorem Try.bits_Mul (x y : Nat) (hx : x < 18446744073709551616) (hy : y < 18446744073709551616) (w : World) :
    Calls Try.prog 49 #[.int .u64 x, .int .u64 y] w fun e w' => e = .returned (.tuple #[.int .u64 ((x * y / 18446744073709551616 : Nat) : Int), .int .u64 ((x * y % 18446744073709551616 : Nat) : Int)]) ∧ w' = w := Any.bits_Mul Try.lays212 x y hx hy w
end Go.Proofs

open Go Go.AL Go.RowKit
namespace Go.Proofs.Ytdmngdphgnnoiaa
set_option maxRecDepth 20000
theorem x49 (n : Nat) (h : n < 1000) : FnR Try.prog 49 [.c (.sc (.int .u64 1)), .c (.sc (.int .u64 (n : Int)))] [.c (.sc (.int .u64 0)), .c (.sc (.int .u64 (n : Int)))] := by
  refine ⟨by kernel_rfl, fun w S φ vs hS hl hr => ?_⟩
  match vs, hl with
  | [v1, v2], _ =>
    obtain ⟨rfl, -⟩ := rd_int (hr 0 _ v1 rfl rfl)
    obtain ⟨rfl, -⟩ := rd_int (hr 1 _ v2 rfl rfl)
    refine (Try.bits_Mul 1 n (by omega) (by omega) w).mono ?_
    rintro e w' ⟨rfl, rfl⟩
    refine ⟨[.int .u64 0, .int .u64 n], S, ?_, ⟨fun _ h => h, fun _ h => .inl h, hS, rfl, fun i r v hi hv => ?_, fun i e k xs v b hi => ?_, fun i j e k xs e' k' xs' v u b hi => ?_⟩, Below.refl _ _⟩
    · rw [show 1 * n / 18446744073709551616 = 0 by omega, show 1 * n % 18446744073709551616 = n by omega]; rfl
    · rcases i with _ | _ | i
      · cases hi; cases hv; exact Rd.sc (by show _ ∧ _; decide)
      · cases hi; cases hv; exact Rd.sc (by show _ ∧ _; simp [IntKind.min, IntKind.max, IntKind.signed, IntKind.bits]; omega)
      · simp at hi
    · rcases i with _ | _ | i
      · cases hi
      · cases hi
      · simp at hi
    · rcases i with _ | _ | i
      · cases hi
      · cases hi
      · simp at hi
noncomputable section
/- slices.Repeat[[]int,int] -/
abbrev c42_1 : AC := .reg [⟨(some 4), .mv (.k (.c .nil)), none⟩] false
abbrev c42_2 : AC := .reg [⟨(some 9), .mv (.t 1), none⟩,
  ⟨(some 10), .bin .lss (.t 9) (.k (.I 0)), none⟩] false
abbrev c42_3 : AC := .raw (rawAt Try.prog 42 0)
abbrev c42_4 : AC := .cond (.t 10) c42_3 .skip
abbrev c42_5 : AC := .seq c42_2 c42_4
abbrev c42_6 : AC := .reg [⟨(some 13), .mv (.t 0), none⟩,
  ⟨(some 14), .len (.t 13), none⟩,
  ⟨(some 15), .conv .u64 (.t 14), none⟩,
  ⟨(some 16), .mv (.t 1), none⟩,
  ⟨(some 17), .conv .u64 (.t 16), none⟩,
  ⟨(some 18), .call 49 [(.t 15), (.t 17)], none⟩,
  ⟨(some 12), .mv (.t 18), none⟩,
  ⟨(some 19), .ext (.t 12) 0, none⟩,
  ⟨(some 20), .ext (.t 12) 1, none⟩,
  ⟨(some 5), .mv (.t 19), none⟩,
  ⟨(some 6), .mv (.t 20), none⟩] false
abbrev c42_7 : AC := .reg [⟨(some 21), .mv (.t 5), none⟩,
  ⟨(some 22), .bin .gtr (.t 21) (.k (.c (.sc (.int .u64 0)))), none⟩,
  ⟨(some 23), .mv (.t 22), none⟩,
  ⟨(some 24), .mv (.t 6), (some (23, false))⟩,
  ⟨(some 25), .bin .gtr (.t 24) (.k (.c (.sc (.int .u64 9223372036854775807)))), (some (23, false))⟩,
  ⟨(some 26), .pick (.t 23) (.k (.B true)) (.t 25), none⟩] false
abbrev c42_8 : AC := .raw (rawAt Try.prog 42 1)
abbrev c42_9 : AC := .cond (.t 26) c42_8 .skip
abbrev c42_10 : AC := .seq c42_7 c42_9
abbrev c42_11 : AC := .reg [⟨(some 28), .mv (.t 6), none⟩,
  ⟨(some 29), .conv .i64 (.t 28), none⟩,
  ⟨(some 30), .mks 3 1 8 [(.sc (.int .i64 0))] (.t 29) (.t 29), none⟩,
  ⟨(some 7), .mv (.t 30), none⟩] false
abbrev c42_12 : AC := .reg [⟨(some 31), .mv (.t 7), none⟩,
  ⟨(some 32), .mv (.t 0), none⟩,
  ⟨(some 33), .cpy 3 1 (.t 31) (.t 32), none⟩,
  ⟨(some 8), .mv (.t 33), none⟩] false
abbrev c42_13 : AC := .reg [⟨(some 34), .mv (.t 8), none⟩,
  ⟨(some 35), .mv (.t 7), none⟩,
  ⟨(some 36), .len (.t 35), none⟩,
  ⟨(some 37), .bin .lss (.t 34) (.t 36), none⟩] false
abbrev c42_14 : AC := .cond (.t 37) .skip (.exit 0)
abbrev c42_15 : AC := .seq c42_13 c42_14
abbrev c42_16 : AC := .regX (.first ⟨(some 38), .mv (.t 8), none⟩
  (.first ⟨(some 39), .mv (.t 7), none⟩
  (.first ⟨(some 40), .mv (.t 8), none⟩
  (.first ⟨(some 42), .mv (.t 7), none⟩
  (.first ⟨(some 43), .mv (.t 8), none⟩
  (.fork ⟨(some 41), .slc 1 (.t 39) (some (.t 40)) none, none⟩
  (.fork ⟨(some 44), .slc 1 (.t 42) none (some (.t 43)), none⟩
  (.fork ⟨(some 45), .cpy 3 1 (.t 41) (.t 44), none⟩
  (.first ⟨(some 46), .bin .add (.t 38) (.t 45), none⟩
  (.first ⟨(some 8), .mv (.t 46), none⟩
  .done))
  .nope)
  .nope)
  (.fork ⟨(some 44), .slc 1 (.t 42) none (some (.t 43)), none⟩
  (.fork ⟨(some 41), .slc 1 (.t 39) (some (.t 40)) none, none⟩
  (.fork ⟨(some 45), .cpy 3 1 (.t 41) (.t 44), none⟩
  (.first ⟨(some 46), .bin .add (.t 38) (.t 45), none⟩
  (.first ⟨(some 8), .mv (.t 46), none⟩
  .done))
  .nope)
  .nope)
  .nope)))))))
abbrev c42_17 : AC := .block 1 c42_16
abbrev c42_18 : AC := .seq c42_15 c42_17
abbrev c42_19 : AC := .loop c42_18
abbrev c42_20 : AC := .block 0 c42_19
abbrev c42_21 : AC := .reg [⟨(some 47), .mv (.t 7), none⟩,
  ⟨(some 4), .mv (.t 47), none⟩] false
abbrev c42_22 : AC := .seq c42_21 .ret
abbrev c42_23 : AC := .seq c42_20 c42_22
abbrev c42_24 : AC := .seq c42_12 c42_23
abbrev c42_25 : AC := .seq c42_11 c42_24
abbrev c42_26 : AC := .seq c42_10 c42_25
abbrev c42_27 : AC := .seq c42_6 c42_26
abbrev c42_28 : AC := .seq c42_5 c42_27
abbrev c42_29 : AC := .seq c42_1 c42_28
abbrev c42 : AC := c42_29
theorem code42 : fnCode Try.prog 42 = some (c42, [4], 48) := by kernel_rfl
def rpA (E : Int) (n m : Nat) : List (List CD) := List.replicate m [CD.I E] ++ List.replicate (n - m) [CD.I 0]
theorem rpA_len (E : Int) (n m : Nat) (h : m ≤ n) : (rpA E n m).length = n := by simp [rpA]; omega
theorem rpA_cpy (E : Int) (n m : Nat) (h : m ≤ n) (h1 : 1 ≤ m) : (rpA E n m).take m ++ ((rpA E n m).take m).take (n - m) ++ (rpA E n m).drop (m + m) = rpA E n (m + min m (n - m)) := by
  unfold rpA
  have e1 : (List.replicate m [CD.I E] ++ List.replicate (n - m) [CD.I 0]).take m = List.replicate m [CD.I E] := by
    rw [List.take_append_of_le_length (by simp)]; simp
  have e2 : (List.replicate m [CD.I E] ++ List.replicate (n - m) [CD.I 0]).drop (m + m) = List.replicate (n - m - m) [CD.I 0] := by
    rw [← List.drop_drop, List.drop_append_of_le_length (by simp)]; simp
  rw [e1, e2, List.take_replicate, List.replicate_append_replicate]
  congr 2 <;> omega
set_option maxHeartbeats 4000000 in
theorem x42 (E : Int) (hE : -1000000000000000 ≤ E ∧ E ≤ 1000000000000000) (n : Nat) (hn : 1 ≤ n ∧ n ≤ 100) : FnR Try.prog 42 [.c (.sl 1 [[.I E]]), .I (n : Int)] [.own 3 1 (List.replicate n [.I E])] := by
  have g := x49 n (by omega)
  have h0 : ((n : Int) < 0) = False := eq_false (by omega)
  have h1 : ((9223372036854775807 : Int) < (n : Int)) = False := eq_false (by omega)
  refine fn_walk code42 (by simp) ?_
  (repeat' (first | refine Both.mk ?_ ?_ | ((first | refine aw ?_ | refine aD ?_ | refine aX ?_ | refine cT ?_ | refine cF ?_ | refine cR (g ..) ?_ | refine cG (g ..) ?_); try simp (disch := omega) only [go_sem, seval, reduceCtorEq, h0, h1, maxLen]) | refine aI (fun hc => ?_) fun hc => ?_ | simp (disch := omega) only [go_sem, seval, reduceCtorEq, h0, h1, maxLen] | (refine And.intro ?_ ?_; focus (first | (intros; omega) | (intros; simp_all; done))) | refine aC ?_ ?_ | refine aC' ?_ ?_ | refine aA ?_ ?_ | fail))
  all_goals first | omega | skip
  refine AW_mark ?_
  refine AW_loopK [7] [8, 34, 35, 36, 37, 38, 39, 40, 41, 42, 43, 44, 45, 46] (fun m : Nat => 1 ≤ m ∧ m ≤ n) (fun m => [(7, .own 30), (8, .I m), (20000, .opt false .any)]) (fun m => [(30, .arr 3 1 (rpA E n m))]) (fun m => n - m) 1 (by omega) ?_ ?_
  · have e1 : min 1 n = 1 := by omega
    have e2 : ∀ k, 1 ≤ k → List.take k [[CD.I E]] = [[CD.I E]] := fun k hk => List.take_of_length_le hk
    simp (disch := omega) only [go_sem, seval, reduceCtorEq, List.length_replicate, Nat.sub_zero, e1, e2, rpA, List.drop_replicate, List.replicate_one, List.singleton_append, List.cons_append, List.nil_append]
  · intro m hm
    have hx := rpA_len E n m hm.2
    have hcp := rpA_cpy E n m hm.2 hm.1
    rcases Nat.lt_or_ge m n with hmn | hmn
    · have hkk : ((m : Int) < (n : Int)) = True := eq_true (by omega)
      have hlt : ((rpA E n m).take m).length = m := by rw [List.length_take, hx]; omega
      generalize rpA E n m = xs at *
      (repeat' (first | refine Both.mk ?_ ?_ | ((first | refine aw ?_ | refine aD ?_ | refine aX ?_ | refine cT ?_ | refine cF ?_); try simp (disch := omega) only [go_sem, seval, reduceCtorEq, hkk, hx, hlt, Int.toNat_natCast]) | refine aI (fun hc => ?_) fun hc => ?_ | simp (disch := omega) only [go_sem, seval, reduceCtorEq, hkk, hx, hlt, Int.toNat_natCast] | (refine And.intro ?_ ?_; focus (first | (intros; omega) | (intros; simp_all; done))) | refine aA ?_ ?_ | fail))
      repeat' apply And.intro
      all_goals first | omega | skip
      all_goals (
        refine .mk (m + min m (n - m)) (by omega) (by omega) ?_
        rw [← hcp]
        simp (disch := omega) only [go_sem, seval, reduceCtorEq, Int.natCast_add])
    · obtain rfl : m = n := by omega
      have hkk : ((m : Int) < (m : Int)) = False := eq_false (by omega)
      have hf : rpA E m m = List.replicate m [CD.I E] := by simp [rpA]
      (repeat' (first | refine Both.mk ?_ ?_ | ((first | refine aw ?_ | refine aD ?_ | refine aX ?_ | refine cT ?_ | refine cF ?_); try simp (disch := omega) only [go_sem, seval, reduceCtorEq, hkk, hf, List.length_replicate]) | refine aI (fun hc => ?_) fun hc => ?_ | simp (disch := omega) only [go_sem, seval, reduceCtorEq, hkk, hf, List.length_replicate] | (refine And.intro ?_ ?_; focus (first | (intros; omega) | (intros; simp_all; done))) | refine aA ?_ ?_ | fail))
end
end Go.Proofs.Ytdmngdphgnnoiaa

open Go Go.AL Go.RowKit
namespace Go.Proofs.Ytdmngdphgnnoiaa
set_option maxRecDepth 20000
def rowM (n : Nat) (m : Mx) (i : Nat) : List (List CD) := (List.range n).map fun j => [CD.I (m i j)]
def tabM (n : Nat) (m : Mx) : List (List (List CD)) := (List.range n).map (rowM n m)
theorem rowM_len (n : Nat) (m : Mx) (i : Nat) : (rowM n m i).length = n := by simp [rowM]
theorem tabM_len (n : Nat) (m : Mx) : (tabM n m).length = n := by simp [tabM]
theorem rowM_get {n : Nat} (m : Mx) (i : Nat) {j : Nat} (h : j < n) : (rowM n m i).getD j [] = [CD.I (m i j)] := by
  rw [List.getD_eq_getElem?_getD, List.getElem?_eq_getElem (by rw [rowM_len]; exact h)]; simp [rowM]
theorem tabM_get {n : Nat} (m : Mx) {i : Nat} (h : i < n) : (tabM n m).getD i [] = rowM n m i := by
  rw [List.getD_eq_getElem?_getD, List.getElem?_eq_getElem (by rw [tabM_len]; exact h)]; simp [tabM]
theorem map_range_set {α : Type} (n i : Nat) (f : Nat → α) (v : α) : ((List.range n).map f).set i v = (List.range n).map fun a => if a = i then v else f a := by
  apply List.ext_getElem
  · simp
  · intro a h1 h2
    simp only [List.getElem_set, List.getElem_map, List.getElem_range]
    by_cases h : a = i
    · rw [if_pos h, if_pos h.symm]
    · rw [if_neg h, if_neg (fun h' => h h'.symm)]
theorem tabM_set {n i : Nat} {m m' : Mx} (h : ∀ a b, a ≠ i → m' a b = m a b) : (tabM n m).set i (rowM n m' i) = tabM n m' := by
  unfold tabM
  rw [map_range_set]
  refine List.map_congr_left fun a _ => ?_
  by_cases ha : a = i
  · rw [if_pos ha, ha]
  · rw [if_neg ha]; unfold rowM
    exact List.map_congr_left fun b _ => by rw [h a b ha]
theorem rowM_set (n : Nat) (m : Mx) (i j : Nat) (v : Int) : (rowM n m i).set j [CD.I v] = rowM n (updM m i j v) i := by
  unfold rowM
  rw [map_range_set]
  refine List.map_congr_left fun b _ => ?_
  unfold updM
  by_cases hb : b = j
  · rw [if_pos hb, if_pos ⟨rfl, hb⟩]
  · rw [if_neg hb, if_neg fun h => hb h.2]
theorem updM_ne {m : Mx} {i j a b : Nat} {v : Int} (h : a ≠ i) : updM m i j v a b = m a b := by
  unfold updM; exact if_neg fun h' => h h'.1
theorem x43m (n : Nat) (m : Mx) (i j : Nat) (I J c : Int) (hI : I = i) (hJ : J = j) (hi : i < n) (hj : j < n) :
    FnW Try.prog 43 [.osl n i 901, .I I, .I J, .I c] [(901, .arr 3 1 (rowM n m i))] [] [(901, .arr 3 1 (rowM n (updM m i j (min (m i j) c)) i))] [901] := by
  subst hI hJ
  have e : ∀ (f : Nat → Int), iRow ((List.range n).map f) = (List.range n).map fun j => [CD.I (f j)] := fun f => by simp [iRow]
  have hn : nth ((List.range n).map (m i)) j = m i j := by rw [nth_eq _ j (by simpa using hj)]; simp
  have g := FnW.low (x43 ((List.range n).map (m i)) n i j c hi (by simpa using hj))
  rw [hn, e, ← iRow_set, e] at g
  have e2 : ((List.range n).map fun j => [CD.I (m i j)]).set j [CD.I (min (m i j) c)] = rowM n (updM m i j (min (m i j) c)) i := rowM_set n m i j _
  rw [e2] at g
  exact g
structure Low (k i j : Nat) (B : Int) (m : Mx) : Prop where
  row : ∀ b, (i < k ∨ (i = k ∧ j ≤ b)) → -B ≤ m k b
  col : ∀ a, (i < a ∨ (a = i ∧ j ≤ k)) → -B ≤ m a k
  kk : -(2 * B) ≤ m k k
  rw3 : ∀ b, -(3 * B) ≤ m k b
  cl3 : ∀ a, -(3 * B) ≤ m a k
  all : ∀ a b, -(6 * B) ≤ m a b
theorem Low.start {k : Nat} {B : Int} {m : Mx} (hB : 0 ≤ B) (h : ∀ a b, -B ≤ m a b) : Low k 0 0 B m :=
  ⟨fun b _ => h k b, fun a _ => h a k, by have := h k k; omega, fun b => by have := h k b; omega, fun a => by have := h a k; omega, fun a b => by have := h a b; omega⟩
theorem Low.step {k i j : Nat} {B : Int} {m : Mx} (hB : 0 ≤ B) (h : Low k i j B m) : Low k i (j + 1) B (stJ k i m j) := by
  have key : ∀ a b, stJ k i m j a b = if a = i ∧ b = j then min (m i j) (m i k + m k j) else m a b := fun a b => rfl
  refine ⟨fun b hb => ?_, fun a ha => ?_, ?_, fun b => ?_, fun a => ?_, fun a b => ?_⟩
  · rw [key, if_neg (fun h' => by omega)]
    exact h.row b (by omega)
  · rw [key, if_neg (fun h' => by omega)]
    exact h.col a (by omega)
  · rw [key]
    split
    · rename_i h'
      have h1 := h.row k (by omega)
      obtain ⟨h2, h3⟩ := h'
      rw [← h2, ← h3]; omega
    · exact h.kk
  · rw [key]
    split
    · rename_i h'
      have h1 := h.row b (by omega)
      have h2 := h.kk
      obtain ⟨h3, h4⟩ := h'
      rw [← h3, ← h4]; omega
    · exact h.rw3 b
  · rw [key]
    split
    · rename_i h'
      have h1 := h.col a (by omega)
      have h2 := h.kk
      obtain ⟨h3, h4⟩ := h'
      rw [← h3, ← h4]; omega
    · exact h.cl3 a
  · rw [key]
    split
    · have h1 := h.cl3 i
      have h2 := h.rw3 j
      have h3 := h.all i j
      omega
    · exact h.all a b
theorem Low.next {k i n : Nat} {B : Int} {m : Mx} (h : Low k i n B m) : Low k (i + 1) 0 B m :=
  ⟨fun b hb => h.row b (by omega), fun a ha => h.col a (by omega), h.kk, h.rw3, h.cl3, h.all⟩
def midM (n : Nat) (m : Mx) (k i j : Nat) : Mx := (List.range j).foldl (stJ k i) ((List.range i).foldl (rowF n k) (rndF n m k))
theorem midM_j (n : Nat) (m : Mx) (k i j : Nat) : midM n m k i (j + 1) = stJ k i (midM n m k i j) j := fold_succ _ _ _
theorem midM_i (n : Nat) (m : Mx) (k i : Nat) : midM n m k (i + 1) 0 = midM n m k i n := fold_succ _ _ _
theorem midM_k (n : Nat) (m : Mx) (k : Nat) : midM n m (k + 1) 0 0 = midM n m k n 0 := rndF_succ n m k
theorem midM_0 (n : Nat) (m : Mx) (k : Nat) : midM n m k 0 0 = rndF n m k := rfl
def lowB (k : Nat) : Int := 20000 * 6 ^ k
theorem lowB_pos (k : Nat) : 0 ≤ lowB k := by unfold lowB; exact Int.mul_nonneg (by omega) (Int.pow_nonneg (by omega))
theorem lowB_succ (k : Nat) : lowB (k + 1) = 6 * lowB k := by unfold lowB; rw [Int.pow_succ]; omega
theorem lowB_le : ∀ k, k ≤ 15 → lowB k ≤ 10000000000000000 := by decide
theorem mid_low {n : Nat} {m : Mx} (h : ∀ a b, -20000 ≤ m a b) (k i j : Nat) : Low k i j (lowB k) (midM n m k i j) := by
  have all : ∀ k, (∀ a b, -lowB k ≤ rndF n m k a b) → ∀ i, Low k i 0 (lowB k) (midM n m k i 0) := fun k hk i => by
    induction i with
    | zero => exact .start (lowB_pos k) hk
    | succ i ih =>
      rw [midM_i]
      have : ∀ j, Low k i j (lowB k) (midM n m k i j) := fun j => by
        induction j with
        | zero => exact ih
        | succ j ihj => rw [midM_j]; exact ihj.step (lowB_pos k)
      exact (this n).next
  have base : ∀ k a b, -lowB k ≤ rndF n m k a b := fun k => by
    induction k with
    | zero => intro a b; exact h a b
    | succ k ih =>
      intro a b
      have := (all k ih n).all a b
      rw [lowB_succ]
      have e : rndF n m (k + 1) = midM n m k n 0 := by rw [← midM_0, midM_k]
      rw [e]; omega
  induction j with
  | zero => exact all k (base k) i
  | succ j ihj => rw [midM_j]; exact ihj.step (lowB_pos k)
theorem mid_le (n : Nat) (m : Mx) (k i j : Nat) : LeM (midM n m k i j) m := by
  unfold midM
  refine (fold_leM (fun m x => stJ_le k i m x) _ _).tr ((fold_leM (fun m x => rowF_le n k m x) _ _).tr ?_)
  have := rndF_le n m 0 k
  rw [Nat.zero_add] at this
  exact this
theorem inM_snoc (E : Int) (b : List Bd) (e : Bd) : inM E (b ++ [e]) = updM (inM E b) e.i e.j (min (inM E b e.i e.j) e.c) := by
  unfold inM; rw [List.foldl_append]; rfl
theorem inM_low {E : Int} (hE : -20000 ≤ E) : ∀ b : List Bd, (∀ e ∈ b, -20000 ≤ e.c) → ∀ x y, -20000 ≤ inM E b x y := by
  have key : ∀ (b : List Bd), (∀ e ∈ b, -20000 ≤ e.c) → ∀ m : Mx, (∀ x y, -20000 ≤ m x y) → ∀ x y, -20000 ≤ (b.foldl (fun m e => updM m e.i e.j (min (m e.i e.j) e.c)) m) x y := by
    intro b
    induction b with
    | nil => intro _ m h; exact h
    | cons e b ih =>
      intro hb m h
      refine ih (fun x hx => hb x (by simp [hx])) _ fun x y => ?_
      unfold updM
      dsimp only
      split
      · have := hb e (by simp); have := h e.i e.j; omega
      · exact h x y
  exact fun b hb => key b hb _ fun x y => by unfold baseM; split <;> omega
theorem x43t (n : Nat) (m M : Mx) (i j : Nat) (I J c : Int) (hI : I = i) (hJ : J = j) (hi : i < n) (hj : j < n) :
    FnW Try.prog 43 [.osl (tabM n M).length i 901, .I I, .I J, .I c] [(901, .arr 3 1 (rowM n m i))] [] [(901, .arr 3 1 (rowM n (updM m i j (min (m i j) c)) i))] [901] := by
  rw [tabM_len]; exact x43m n m i j I J c hI hJ hi hj
theorem mem_rowM {n : Nat} {m : Mx} {i : Nat} {x : List CD} : x ∈ rowM n m i ↔ ∃ j, j < n ∧ [CD.sc (Value.int IntKind.i64 (m i j))] = x := by simp [rowM]
end Go.Proofs.Ytdmngdphgnnoiaa

