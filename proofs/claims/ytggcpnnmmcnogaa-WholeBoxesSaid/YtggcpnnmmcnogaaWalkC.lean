/-
  Lemmas for the proof: no statement of its own.
-/
import Derived.Test.YtggcpnnmmcnogaaWalkB
set_option linter.unusedVariables false
set_option linter.unusedSimpArgs false
-- P p_b.txt
open Go Go.AL Go.RowKit
namespace Go.Proofs.Ytggcpnnmmcnogaa
set_option maxRecDepth 20000
/- coinage/coloring.Valid -/
abbrev c13_1 : AC := .reg [⟨(some 4), .mv (.k (.B false)), none⟩] false
abbrev c13_2 : AC := .reg [⟨(some 7), .mv (.t 0), none⟩,
  ⟨(some 8), .bin .lss (.t 7) (.k (.I 0)), none⟩,
  ⟨(some 9), .mv (.t 8), none⟩,
  ⟨(some 10), .mv (.t 0), (some (9, false))⟩,
  ⟨(some 11), .bin .gtr (.t 10) (.k (.I 12)), (some (9, false))⟩,
  ⟨(some 12), .pick (.t 9) (.k (.B true)) (.t 11), none⟩] false
abbrev c13_3 : AC := .reg [⟨(some 4), .mv (.k (.B false)), none⟩] false
abbrev c13_4 : AC := .seq c13_3 .ret
abbrev c13_5 : AC := .cond (.t 12) c13_4 .skip
abbrev c13_6 : AC := .seq c13_2 c13_5
abbrev c13_7 : AC := .reg [⟨(some 13), .mv (.t 1), none⟩,
  ⟨(some 14), .len (.t 13), none⟩,
  ⟨(some 15), .mv (.k (.I 0)), none⟩] false
abbrev c13_8 : AC := .reg [⟨(some 16), .bin .lss (.t 15) (.t 14), none⟩] false
abbrev c13_9 : AC := .cond (.t 16) .skip (.exit 0)
abbrev c13_10 : AC := .reg [⟨(some 17), .mv (.t 15), none⟩,
  ⟨(some 18), .iad 2 (.t 13) (.t 15), none⟩,
  ⟨(some 19), .ld (some 2) (.t 18), none⟩,
  ⟨(some 6), .alloc 38 [(.I 0), (.I 0)], none⟩,
  ⟨(some 5), .mv (.t 17), none⟩,
  ⟨none, .st (some 2) (.t 6) (.t 19), none⟩] false
abbrev c13_11 : AC := .reg [⟨(some 20), .fad 0 (.t 6), none⟩,
  ⟨(some 21), .ld none (.t 20), none⟩,
  ⟨(some 22), .bin .lss (.t 21) (.k (.I 0)), none⟩,
  ⟨(some 23), .mv (.t 22), none⟩,
  ⟨(some 24), .fad 0 (.t 6), (some (23, false))⟩,
  ⟨(some 25), .ld none (.t 24), (some (23, false))⟩,
  ⟨(some 26), .fad 1 (.t 6), (some (23, false))⟩,
  ⟨(some 27), .ld none (.t 26), (some (23, false))⟩,
  ⟨(some 28), .bin .geq (.t 25) (.t 27), (some (23, false))⟩,
  ⟨(some 29), .pick (.t 23) (.k (.B true)) (.t 28), none⟩,
  ⟨(some 30), .mv (.t 29), none⟩,
  ⟨(some 31), .fad 1 (.t 6), (some (30, false))⟩,
  ⟨(some 32), .ld none (.t 31), (some (30, false))⟩,
  ⟨(some 33), .mv (.t 0), (some (30, false))⟩,
  ⟨(some 34), .bin .geq (.t 32) (.t 33), (some (30, false))⟩,
  ⟨(some 35), .pick (.t 30) (.k (.B true)) (.t 34), none⟩] false
abbrev c13_12 : AC := .reg [⟨(some 4), .mv (.k (.B false)), none⟩] false
abbrev c13_13 : AC := .seq c13_12 .ret
abbrev c13_14 : AC := .cond (.t 35) c13_13 .skip
abbrev c13_15 : AC := .seq c13_11 c13_14
abbrev c13_16 : AC := .regD [(⟨(some 36), .mv (.t 5), none⟩, [5]),
  (⟨(some 37), .bin .gtr (.t 36) (.k (.I 0)), none⟩, [36]),
  (⟨(some 38), .mv (.t 37), none⟩, [37]),
  (⟨(some 39), .fad 0 (.t 6), (some (38, true))⟩, [6, 38]),
  (⟨(some 40), .ld none (.t 39), (some (38, true))⟩, [39, 38]),
  (⟨(some 41), .mv (.t 1), (some (38, true))⟩, [1, 38]),
  (⟨(some 42), .mv (.t 5), (some (38, true))⟩, [5, 38]),
  (⟨(some 43), .bin .sub (.t 42) (.k (.I 1)), (some (38, true))⟩, [42, 38]),
  (⟨(some 44), .iad 2 (.t 41) (.t 43), (some (38, true))⟩, [41, 43, 38]),
  (⟨(some 45), .fad 0 (.t 44), (some (38, true))⟩, [44, 38]),
  (⟨(some 46), .ld none (.t 45), (some (38, true))⟩, [45, 38]),
  (⟨(some 47), .bin .lss (.t 40) (.t 46), (some (38, true))⟩, [40, 46, 38]),
  (⟨(some 48), .mv (.t 47), (some (38, true))⟩, [47, 38]),
  (⟨(some 49), .fad 0 (.t 6), (some (48, false))⟩, [6, 48]),
  (⟨(some 50), .ld none (.t 49), (some (48, false))⟩, [49, 48]),
  (⟨(some 51), .mv (.t 1), (some (48, false))⟩, [1, 48]),
  (⟨(some 52), .mv (.t 5), (some (48, false))⟩, [5, 48]),
  (⟨(some 53), .bin .sub (.t 52) (.k (.I 1)), (some (48, false))⟩, [52, 48]),
  (⟨(some 54), .iad 2 (.t 51) (.t 53), (some (48, false))⟩, [51, 53, 48]),
  (⟨(some 55), .fad 0 (.t 54), (some (48, false))⟩, [54, 48]),
  (⟨(some 56), .ld none (.t 55), (some (48, false))⟩, [55, 48]),
  (⟨(some 57), .bin .eql (.t 50) (.t 56), (some (48, false))⟩, [50, 56, 48]),
  (⟨(some 58), .mv (.t 57), (some (48, false))⟩, [57, 48]),
  (⟨(some 59), .fad 1 (.t 6), (some (58, true))⟩, [6, 58]),
  (⟨(some 60), .ld none (.t 59), (some (58, true))⟩, [59, 58]),
  (⟨(some 61), .mv (.t 1), (some (58, true))⟩, [1, 58]),
  (⟨(some 62), .mv (.t 5), (some (58, true))⟩, [5, 58]),
  (⟨(some 63), .bin .sub (.t 62) (.k (.I 1)), (some (58, true))⟩, [62, 58]),
  (⟨(some 64), .iad 2 (.t 61) (.t 63), (some (58, true))⟩, [61, 63, 58]),
  (⟨(some 65), .fad 1 (.t 64), (some (58, true))⟩, [64, 58]),
  (⟨(some 66), .ld none (.t 65), (some (58, true))⟩, [65, 58]),
  (⟨(some 67), .bin .leq (.t 60) (.t 66), (some (58, true))⟩, [60, 66, 58]),
  (⟨(some 68), .pick (.t 58) (.t 67) (.k (.B false)), (some (48, false))⟩, [58, 67, 48]),
  (⟨(some 69), .pick (.t 48) (.k (.B true)) (.t 68), (some (38, true))⟩, [48, 68, 38]),
  (⟨(some 70), .pick (.t 38) (.t 69) (.k (.B false)), none⟩, [38, 69])]
abbrev c13_17 : AC := .reg [⟨(some 4), .mv (.k (.B false)), none⟩] false
abbrev c13_18 : AC := .seq c13_17 .ret
abbrev c13_19 : AC := .cond (.t 70) c13_18 .skip
abbrev c13_20 : AC := .seq c13_16 c13_19
abbrev c13_21 : AC := .seq c13_15 c13_20
abbrev c13_22 : AC := .seq c13_10 c13_21
abbrev c13_23 : AC := .block 1 c13_22
abbrev c13_24 : AC := .reg [⟨(some 71), .bin .add (.t 15) (.k (.I 1)), none⟩,
  ⟨(some 15), .mv (.t 71), none⟩] false
abbrev c13_25 : AC := .seq c13_23 c13_24
abbrev c13_26 : AC := .seq c13_9 c13_25
abbrev c13_27 : AC := .seq c13_8 c13_26
abbrev c13_28 : AC := .loop c13_27
abbrev c13_29 : AC := .block 0 c13_28
abbrev c13_30 : AC := .seq c13_7 c13_29
abbrev c13_31 : AC := .reg [⟨(some 4), .mv (.k (.B true)), none⟩] false
abbrev c13_32 : AC := .seq c13_31 .ret
abbrev c13_33 : AC := .seq c13_30 c13_32
abbrev c13_34 : AC := .seq c13_6 c13_33
abbrev c13_35 : AC := .seq c13_1 c13_34
abbrev c13 : AC := c13_35
theorem code13 : fnCode Try.prog 13 = some (c13, [4], 72) := by kernel_rfl
/- coinage/coloring.made -/
abbrev c15_1 : AC := .reg [⟨(some 4), .mv (.k (.c .nil)), none⟩] false
abbrev c15_2 : AC := .reg [⟨(some 8), .mv (.t 0), none⟩,
  ⟨(some 9), .mks 31 1 24 [.nil] (.t 8) (.t 8), none⟩,
  ⟨(some 5), .mv (.t 9), none⟩] false
abbrev c15_3 : AC := .reg [⟨(some 10), .mv (.t 1), none⟩,
  ⟨(some 11), .len (.t 10), none⟩,
  ⟨(some 12), .mv (.k (.I 0)), none⟩] false
abbrev c15_4 : AC := .reg [⟨(some 13), .bin .lss (.t 12) (.t 11), none⟩] false
abbrev c15_5 : AC := .cond (.t 13) .skip (.exit 0)
abbrev c15_6 : AC := .reg [⟨(some 14), .iad 2 (.t 10) (.t 12), none⟩,
  ⟨(some 15), .ld (some 2) (.t 14), none⟩,
  ⟨(some 7), .alloc 38 [(.I 0), (.I 0)], none⟩,
  ⟨none, .st (some 2) (.t 7) (.t 15), none⟩] false
abbrev c15_7 : AC := .regX (.first ⟨(some 16), .mv (.t 5), none⟩
  (.first ⟨(some 17), .fad 0 (.t 7), none⟩
  (.first ⟨(some 19), .mv (.t 5), none⟩
  (.first ⟨(some 20), .fad 0 (.t 7), none⟩
  (.first ⟨(some 24), .fad 1 (.t 7), none⟩
  (.fork ⟨(some 18), .ld none (.t 17), none⟩
  (.fork ⟨(some 21), .ld none (.t 20), none⟩
  (.first ⟨(some 22), .iad 1 (.t 19) (.t 21), none⟩
  (.fork ⟨(some 23), .ld none (.t 22), none⟩
  (.fork ⟨(some 25), .ld none (.t 24), none⟩
  (.fork ⟨(some 26), .bslice 3 1 [(.t 25)], none⟩
  (.fork ⟨(some 27), .app 3 1 8 (.t 23) (.t 26), none⟩
  (.first ⟨(some 28), .iad 1 (.t 16) (.t 18), none⟩
  (.fork ⟨none, .st none (.t 28) (.t 27), none⟩
  .done
  .nope))
  .nope)
  .nope)
  .nope)
  (.fork ⟨(some 25), .ld none (.t 24), none⟩
  (.fork ⟨(some 23), .ld none (.t 22), none⟩
  (.fork ⟨(some 26), .bslice 3 1 [(.t 25)], none⟩
  (.fork ⟨(some 27), .app 3 1 8 (.t 23) (.t 26), none⟩
  (.first ⟨(some 28), .iad 1 (.t 16) (.t 18), none⟩
  (.fork ⟨none, .st none (.t 28) (.t 27), none⟩
  .done
  .nope))
  .nope)
  .nope)
  (.fork ⟨(some 26), .bslice 3 1 [(.t 25)], none⟩
  (.fork ⟨(some 23), .ld none (.t 22), none⟩
  (.fork ⟨(some 27), .app 3 1 8 (.t 23) (.t 26), none⟩
  (.first ⟨(some 28), .iad 1 (.t 16) (.t 18), none⟩
  (.fork ⟨none, .st none (.t 28) (.t 27), none⟩
  .done
  .nope))
  .nope)
  .nope)
  .nope))
  .nope)))
  (.fork ⟨(some 25), .ld none (.t 24), none⟩
  (.fork ⟨(some 21), .ld none (.t 20), none⟩
  (.first ⟨(some 22), .iad 1 (.t 19) (.t 21), none⟩
  (.fork ⟨(some 23), .ld none (.t 22), none⟩
  (.fork ⟨(some 26), .bslice 3 1 [(.t 25)], none⟩
  (.fork ⟨(some 27), .app 3 1 8 (.t 23) (.t 26), none⟩
  (.first ⟨(some 28), .iad 1 (.t 16) (.t 18), none⟩
  (.fork ⟨none, .st none (.t 28) (.t 27), none⟩
  .done
  .nope))
  .nope)
  .nope)
  (.fork ⟨(some 26), .bslice 3 1 [(.t 25)], none⟩
  (.fork ⟨(some 23), .ld none (.t 22), none⟩
  (.fork ⟨(some 27), .app 3 1 8 (.t 23) (.t 26), none⟩
  (.first ⟨(some 28), .iad 1 (.t 16) (.t 18), none⟩
  (.fork ⟨none, .st none (.t 28) (.t 27), none⟩
  .done
  .nope))
  .nope)
  .nope)
  .nope)))
  (.fork ⟨(some 26), .bslice 3 1 [(.t 25)], none⟩
  (.fork ⟨(some 21), .ld none (.t 20), none⟩
  (.first ⟨(some 22), .iad 1 (.t 19) (.t 21), none⟩
  (.fork ⟨(some 23), .ld none (.t 22), none⟩
  (.fork ⟨(some 27), .app 3 1 8 (.t 23) (.t 26), none⟩
  (.first ⟨(some 28), .iad 1 (.t 16) (.t 18), none⟩
  (.fork ⟨none, .st none (.t 28) (.t 27), none⟩
  .done
  .nope))
  .nope)
  .nope))
  .nope)
  .nope))
  .nope))
  (.fork ⟨(some 21), .ld none (.t 20), none⟩
  (.first ⟨(some 22), .iad 1 (.t 19) (.t 21), none⟩
  (.fork ⟨(some 18), .ld none (.t 17), none⟩
  (.fork ⟨(some 23), .ld none (.t 22), none⟩
  (.fork ⟨(some 25), .ld none (.t 24), none⟩
  (.fork ⟨(some 26), .bslice 3 1 [(.t 25)], none⟩
  (.fork ⟨(some 27), .app 3 1 8 (.t 23) (.t 26), none⟩
  (.first ⟨(some 28), .iad 1 (.t 16) (.t 18), none⟩
  (.fork ⟨none, .st none (.t 28) (.t 27), none⟩
  .done
  .nope))
  .nope)
  .nope)
  .nope)
  (.fork ⟨(some 25), .ld none (.t 24), none⟩
  (.fork ⟨(some 23), .ld none (.t 22), none⟩
  (.fork ⟨(some 26), .bslice 3 1 [(.t 25)], none⟩
  (.fork ⟨(some 27), .app 3 1 8 (.t 23) (.t 26), none⟩
  (.first ⟨(some 28), .iad 1 (.t 16) (.t 18), none⟩
  (.fork ⟨none, .st none (.t 28) (.t 27), none⟩
  .done
  .nope))
  .nope)
  .nope)
  (.fork ⟨(some 26), .bslice 3 1 [(.t 25)], none⟩
  (.fork ⟨(some 23), .ld none (.t 22), none⟩
  (.fork ⟨(some 27), .app 3 1 8 (.t 23) (.t 26), none⟩
  (.first ⟨(some 28), .iad 1 (.t 16) (.t 18), none⟩
  (.fork ⟨none, .st none (.t 28) (.t 27), none⟩
  .done
  .nope))
  .nope)
  .nope)
  .nope))
  .nope))
  (.fork ⟨(some 23), .ld none (.t 22), none⟩
  (.fork ⟨(some 18), .ld none (.t 17), none⟩
  (.fork ⟨(some 25), .ld none (.t 24), none⟩
  (.fork ⟨(some 26), .bslice 3 1 [(.t 25)], none⟩
  (.fork ⟨(some 27), .app 3 1 8 (.t 23) (.t 26), none⟩
  (.first ⟨(some 28), .iad 1 (.t 16) (.t 18), none⟩
  (.fork ⟨none, .st none (.t 28) (.t 27), none⟩
  .done
  .nope))
  .nope)
  .nope)
  .nope)
  (.fork ⟨(some 25), .ld none (.t 24), none⟩
  (.fork ⟨(some 18), .ld none (.t 17), none⟩
  (.fork ⟨(some 26), .bslice 3 1 [(.t 25)], none⟩
  (.fork ⟨(some 27), .app 3 1 8 (.t 23) (.t 26), none⟩
  (.first ⟨(some 28), .iad 1 (.t 16) (.t 18), none⟩
  (.fork ⟨none, .st none (.t 28) (.t 27), none⟩
  .done
  .nope))
  .nope)
  .nope)
  (.fork ⟨(some 26), .bslice 3 1 [(.t 25)], none⟩
  (.fork ⟨(some 18), .ld none (.t 17), none⟩
  (.fork ⟨(some 27), .app 3 1 8 (.t 23) (.t 26), none⟩
  (.first ⟨(some 28), .iad 1 (.t 16) (.t 18), none⟩
  (.fork ⟨none, .st none (.t 28) (.t 27), none⟩
  .done
  .nope))
  .nope)
  (.fork ⟨(some 27), .app 3 1 8 (.t 23) (.t 26), none⟩
  (.fork ⟨(some 18), .ld none (.t 17), none⟩
  (.first ⟨(some 28), .iad 1 (.t 16) (.t 18), none⟩
  (.fork ⟨none, .st none (.t 28) (.t 27), none⟩
  .done
  .nope))
  .nope)
  .nope))
  .nope))
  .nope))
  (.fork ⟨(some 25), .ld none (.t 24), none⟩
  (.fork ⟨(some 18), .ld none (.t 17), none⟩
  (.fork ⟨(some 23), .ld none (.t 22), none⟩
  (.fork ⟨(some 26), .bslice 3 1 [(.t 25)], none⟩
  (.fork ⟨(some 27), .app 3 1 8 (.t 23) (.t 26), none⟩
  (.first ⟨(some 28), .iad 1 (.t 16) (.t 18), none⟩
  (.fork ⟨none, .st none (.t 28) (.t 27), none⟩
  .done
  .nope))
  .nope)
  .nope)
  (.fork ⟨(some 26), .bslice 3 1 [(.t 25)], none⟩
  (.fork ⟨(some 23), .ld none (.t 22), none⟩
  (.fork ⟨(some 27), .app 3 1 8 (.t 23) (.t 26), none⟩
  (.first ⟨(some 28), .iad 1 (.t 16) (.t 18), none⟩
  (.fork ⟨none, .st none (.t 28) (.t 27), none⟩
  .done
  .nope))
  .nope)
  .nope)
  .nope))
  (.fork ⟨(some 23), .ld none (.t 22), none⟩
  (.fork ⟨(some 18), .ld none (.t 17), none⟩
  (.fork ⟨(some 26), .bslice 3 1 [(.t 25)], none⟩
  (.fork ⟨(some 27), .app 3 1 8 (.t 23) (.t 26), none⟩
  (.first ⟨(some 28), .iad 1 (.t 16) (.t 18), none⟩
  (.fork ⟨none, .st none (.t 28) (.t 27), none⟩
  .done
  .nope))
  .nope)
  .nope)
  (.fork ⟨(some 26), .bslice 3 1 [(.t 25)], none⟩
  (.fork ⟨(some 18), .ld none (.t 17), none⟩
  (.fork ⟨(some 27), .app 3 1 8 (.t 23) (.t 26), none⟩
  (.first ⟨(some 28), .iad 1 (.t 16) (.t 18), none⟩
  (.fork ⟨none, .st none (.t 28) (.t 27), none⟩
  .done
  .nope))
  .nope)
  (.fork ⟨(some 27), .app 3 1 8 (.t 23) (.t 26), none⟩
  (.fork ⟨(some 18), .ld none (.t 17), none⟩
  (.first ⟨(some 28), .iad 1 (.t 16) (.t 18), none⟩
  (.fork ⟨none, .st none (.t 28) (.t 27), none⟩
  .done
  .nope))
  .nope)
  .nope))
  .nope))
  (.fork ⟨(some 26), .bslice 3 1 [(.t 25)], none⟩
  (.fork ⟨(some 18), .ld none (.t 17), none⟩
  (.fork ⟨(some 23), .ld none (.t 22), none⟩
  (.fork ⟨(some 27), .app 3 1 8 (.t 23) (.t 26), none⟩
  (.first ⟨(some 28), .iad 1 (.t 16) (.t 18), none⟩
  (.fork ⟨none, .st none (.t 28) (.t 27), none⟩
  .done
  .nope))
  .nope)
  .nope)
  (.fork ⟨(some 23), .ld none (.t 22), none⟩
  (.fork ⟨(some 18), .ld none (.t 17), none⟩
  (.fork ⟨(some 27), .app 3 1 8 (.t 23) (.t 26), none⟩
  (.first ⟨(some 28), .iad 1 (.t 16) (.t 18), none⟩
  (.fork ⟨none, .st none (.t 28) (.t 27), none⟩
  .done
  .nope))
  .nope)
  (.fork ⟨(some 27), .app 3 1 8 (.t 23) (.t 26), none⟩
  (.fork ⟨(some 18), .ld none (.t 17), none⟩
  (.first ⟨(some 28), .iad 1 (.t 16) (.t 18), none⟩
  (.fork ⟨none, .st none (.t 28) (.t 27), none⟩
  .done
  .nope))
  .nope)
  .nope))
  .nope))
  .nope)))
  .nope))))
  (.fork ⟨(some 25), .ld none (.t 24), none⟩
  (.fork ⟨(some 18), .ld none (.t 17), none⟩
  (.fork ⟨(some 21), .ld none (.t 20), none⟩
  (.first ⟨(some 22), .iad 1 (.t 19) (.t 21), none⟩
  (.fork ⟨(some 23), .ld none (.t 22), none⟩
  (.fork ⟨(some 26), .bslice 3 1 [(.t 25)], none⟩
  (.fork ⟨(some 27), .app 3 1 8 (.t 23) (.t 26), none⟩
  (.first ⟨(some 28), .iad 1 (.t 16) (.t 18), none⟩
  (.fork ⟨none, .st none (.t 28) (.t 27), none⟩
  .done
  .nope))
  .nope)
  .nope)
  (.fork ⟨(some 26), .bslice 3 1 [(.t 25)], none⟩
  (.fork ⟨(some 23), .ld none (.t 22), none⟩
  (.fork ⟨(some 27), .app 3 1 8 (.t 23) (.t 26), none⟩
  (.first ⟨(some 28), .iad 1 (.t 16) (.t 18), none⟩
  (.fork ⟨none, .st none (.t 28) (.t 27), none⟩
  .done
  .nope))
  .nope)
  .nope)
  .nope)))
  (.fork ⟨(some 26), .bslice 3 1 [(.t 25)], none⟩
  (.fork ⟨(some 21), .ld none (.t 20), none⟩
  (.first ⟨(some 22), .iad 1 (.t 19) (.t 21), none⟩
  (.fork ⟨(some 23), .ld none (.t 22), none⟩
  (.fork ⟨(some 27), .app 3 1 8 (.t 23) (.t 26), none⟩
  (.first ⟨(some 28), .iad 1 (.t 16) (.t 18), none⟩
  (.fork ⟨none, .st none (.t 28) (.t 27), none⟩
  .done
  .nope))
  .nope)
  .nope))
  .nope)
  .nope))
  (.fork ⟨(some 21), .ld none (.t 20), none⟩
  (.first ⟨(some 22), .iad 1 (.t 19) (.t 21), none⟩
  (.fork ⟨(some 18), .ld none (.t 17), none⟩
  (.fork ⟨(some 23), .ld none (.t 22), none⟩
  (.fork ⟨(some 26), .bslice 3 1 [(.t 25)], none⟩
  (.fork ⟨(some 27), .app 3 1 8 (.t 23) (.t 26), none⟩
  (.first ⟨(some 28), .iad 1 (.t 16) (.t 18), none⟩
  (.fork ⟨none, .st none (.t 28) (.t 27), none⟩
  .done
  .nope))
  .nope)
  .nope)
  (.fork ⟨(some 26), .bslice 3 1 [(.t 25)], none⟩
  (.fork ⟨(some 23), .ld none (.t 22), none⟩
  (.fork ⟨(some 27), .app 3 1 8 (.t 23) (.t 26), none⟩
  (.first ⟨(some 28), .iad 1 (.t 16) (.t 18), none⟩
  (.fork ⟨none, .st none (.t 28) (.t 27), none⟩
  .done
  .nope))
  .nope)
  .nope)
  .nope))
  (.fork ⟨(some 23), .ld none (.t 22), none⟩
  (.fork ⟨(some 18), .ld none (.t 17), none⟩
  (.fork ⟨(some 26), .bslice 3 1 [(.t 25)], none⟩
  (.fork ⟨(some 27), .app 3 1 8 (.t 23) (.t 26), none⟩
  (.first ⟨(some 28), .iad 1 (.t 16) (.t 18), none⟩
  (.fork ⟨none, .st none (.t 28) (.t 27), none⟩
  .done
  .nope))
  .nope)
  .nope)
  (.fork ⟨(some 26), .bslice 3 1 [(.t 25)], none⟩
  (.fork ⟨(some 18), .ld none (.t 17), none⟩
  (.fork ⟨(some 27), .app 3 1 8 (.t 23) (.t 26), none⟩
  (.first ⟨(some 28), .iad 1 (.t 16) (.t 18), none⟩
  (.fork ⟨none, .st none (.t 28) (.t 27), none⟩
  .done
  .nope))
  .nope)
  (.fork ⟨(some 27), .app 3 1 8 (.t 23) (.t 26), none⟩
  (.fork ⟨(some 18), .ld none (.t 17), none⟩
  (.first ⟨(some 28), .iad 1 (.t 16) (.t 18), none⟩
  (.fork ⟨none, .st none (.t 28) (.t 27), none⟩
  .done
  .nope))
  .nope)
  .nope))
  .nope))
  (.fork ⟨(some 26), .bslice 3 1 [(.t 25)], none⟩
  (.fork ⟨(some 18), .ld none (.t 17), none⟩
  (.fork ⟨(some 23), .ld none (.t 22), none⟩
  (.fork ⟨(some 27), .app 3 1 8 (.t 23) (.t 26), none⟩
  (.first ⟨(some 28), .iad 1 (.t 16) (.t 18), none⟩
  (.fork ⟨none, .st none (.t 28) (.t 27), none⟩
  .done
  .nope))
  .nope)
  .nope)
  (.fork ⟨(some 23), .ld none (.t 22), none⟩
  (.fork ⟨(some 18), .ld none (.t 17), none⟩
  (.fork ⟨(some 27), .app 3 1 8 (.t 23) (.t 26), none⟩
  (.first ⟨(some 28), .iad 1 (.t 16) (.t 18), none⟩
  (.fork ⟨none, .st none (.t 28) (.t 27), none⟩
  .done
  .nope))
  .nope)
  (.fork ⟨(some 27), .app 3 1 8 (.t 23) (.t 26), none⟩
  (.fork ⟨(some 18), .ld none (.t 17), none⟩
  (.first ⟨(some 28), .iad 1 (.t 16) (.t 18), none⟩
  (.fork ⟨none, .st none (.t 28) (.t 27), none⟩
  .done
  .nope))
  .nope)
  .nope))
  .nope))
  .nope))))
  (.fork ⟨(some 26), .bslice 3 1 [(.t 25)], none⟩
  (.fork ⟨(some 18), .ld none (.t 17), none⟩
  (.fork ⟨(some 21), .ld none (.t 20), none⟩
  (.first ⟨(some 22), .iad 1 (.t 19) (.t 21), none⟩
  (.fork ⟨(some 23), .ld none (.t 22), none⟩
  (.fork ⟨(some 27), .app 3 1 8 (.t 23) (.t 26), none⟩
  (.first ⟨(some 28), .iad 1 (.t 16) (.t 18), none⟩
  (.fork ⟨none, .st none (.t 28) (.t 27), none⟩
  .done
  .nope))
  .nope)
  .nope))
  .nope)
  (.fork ⟨(some 21), .ld none (.t 20), none⟩
  (.first ⟨(some 22), .iad 1 (.t 19) (.t 21), none⟩
  (.fork ⟨(some 18), .ld none (.t 17), none⟩
  (.fork ⟨(some 23), .ld none (.t 22), none⟩
  (.fork ⟨(some 27), .app 3 1 8 (.t 23) (.t 26), none⟩
  (.first ⟨(some 28), .iad 1 (.t 16) (.t 18), none⟩
  (.fork ⟨none, .st none (.t 28) (.t 27), none⟩
  .done
  .nope))
  .nope)
  .nope)
  (.fork ⟨(some 23), .ld none (.t 22), none⟩
  (.fork ⟨(some 18), .ld none (.t 17), none⟩
  (.fork ⟨(some 27), .app 3 1 8 (.t 23) (.t 26), none⟩
  (.first ⟨(some 28), .iad 1 (.t 16) (.t 18), none⟩
  (.fork ⟨none, .st none (.t 28) (.t 27), none⟩
  .done
  .nope))
  .nope)
  (.fork ⟨(some 27), .app 3 1 8 (.t 23) (.t 26), none⟩
  (.fork ⟨(some 18), .ld none (.t 17), none⟩
  (.first ⟨(some 28), .iad 1 (.t 16) (.t 18), none⟩
  (.fork ⟨none, .st none (.t 28) (.t 27), none⟩
  .done
  .nope))
  .nope)
  .nope))
  .nope)))
  .nope))
  .nope)))
  .nope))))))))
abbrev c15_8 : AC := .regX (.first ⟨(some 29), .mv (.t 5), none⟩
  (.first ⟨(some 30), .fad 1 (.t 7), none⟩
  (.first ⟨(some 32), .mv (.t 5), none⟩
  (.first ⟨(some 33), .fad 1 (.t 7), none⟩
  (.first ⟨(some 37), .fad 0 (.t 7), none⟩
  (.fork ⟨(some 31), .ld none (.t 30), none⟩
  (.fork ⟨(some 34), .ld none (.t 33), none⟩
  (.first ⟨(some 35), .iad 1 (.t 32) (.t 34), none⟩
  (.fork ⟨(some 36), .ld none (.t 35), none⟩
  (.fork ⟨(some 38), .ld none (.t 37), none⟩
  (.fork ⟨(some 39), .bslice 3 1 [(.t 38)], none⟩
  (.fork ⟨(some 40), .app 3 1 8 (.t 36) (.t 39), none⟩
  (.first ⟨(some 41), .iad 1 (.t 29) (.t 31), none⟩
  (.fork ⟨none, .st none (.t 41) (.t 40), none⟩
  .done
  .nope))
  .nope)
  .nope)
  .nope)
  (.fork ⟨(some 38), .ld none (.t 37), none⟩
  (.fork ⟨(some 36), .ld none (.t 35), none⟩
  (.fork ⟨(some 39), .bslice 3 1 [(.t 38)], none⟩
  (.fork ⟨(some 40), .app 3 1 8 (.t 36) (.t 39), none⟩
  (.first ⟨(some 41), .iad 1 (.t 29) (.t 31), none⟩
  (.fork ⟨none, .st none (.t 41) (.t 40), none⟩
  .done
  .nope))
  .nope)
  .nope)
  (.fork ⟨(some 39), .bslice 3 1 [(.t 38)], none⟩
  (.fork ⟨(some 36), .ld none (.t 35), none⟩
  (.fork ⟨(some 40), .app 3 1 8 (.t 36) (.t 39), none⟩
  (.first ⟨(some 41), .iad 1 (.t 29) (.t 31), none⟩
  (.fork ⟨none, .st none (.t 41) (.t 40), none⟩
  .done
  .nope))
  .nope)
  .nope)
  .nope))
  .nope)))
  (.fork ⟨(some 38), .ld none (.t 37), none⟩
  (.fork ⟨(some 34), .ld none (.t 33), none⟩
  (.first ⟨(some 35), .iad 1 (.t 32) (.t 34), none⟩
  (.fork ⟨(some 36), .ld none (.t 35), none⟩
  (.fork ⟨(some 39), .bslice 3 1 [(.t 38)], none⟩
  (.fork ⟨(some 40), .app 3 1 8 (.t 36) (.t 39), none⟩
  (.first ⟨(some 41), .iad 1 (.t 29) (.t 31), none⟩
  (.fork ⟨none, .st none (.t 41) (.t 40), none⟩
  .done
  .nope))
  .nope)
  .nope)
  (.fork ⟨(some 39), .bslice 3 1 [(.t 38)], none⟩
  (.fork ⟨(some 36), .ld none (.t 35), none⟩
  (.fork ⟨(some 40), .app 3 1 8 (.t 36) (.t 39), none⟩
  (.first ⟨(some 41), .iad 1 (.t 29) (.t 31), none⟩
  (.fork ⟨none, .st none (.t 41) (.t 40), none⟩
  .done
  .nope))
  .nope)
  .nope)
  .nope)))
  (.fork ⟨(some 39), .bslice 3 1 [(.t 38)], none⟩
  (.fork ⟨(some 34), .ld none (.t 33), none⟩
  (.first ⟨(some 35), .iad 1 (.t 32) (.t 34), none⟩
  (.fork ⟨(some 36), .ld none (.t 35), none⟩
  (.fork ⟨(some 40), .app 3 1 8 (.t 36) (.t 39), none⟩
  (.first ⟨(some 41), .iad 1 (.t 29) (.t 31), none⟩
  (.fork ⟨none, .st none (.t 41) (.t 40), none⟩
  .done
  .nope))
  .nope)
  .nope))
  .nope)
  .nope))
  .nope))
  (.fork ⟨(some 34), .ld none (.t 33), none⟩
  (.first ⟨(some 35), .iad 1 (.t 32) (.t 34), none⟩
  (.fork ⟨(some 31), .ld none (.t 30), none⟩
  (.fork ⟨(some 36), .ld none (.t 35), none⟩
  (.fork ⟨(some 38), .ld none (.t 37), none⟩
  (.fork ⟨(some 39), .bslice 3 1 [(.t 38)], none⟩
  (.fork ⟨(some 40), .app 3 1 8 (.t 36) (.t 39), none⟩
  (.first ⟨(some 41), .iad 1 (.t 29) (.t 31), none⟩
  (.fork ⟨none, .st none (.t 41) (.t 40), none⟩
  .done
  .nope))
  .nope)
  .nope)
  .nope)
  (.fork ⟨(some 38), .ld none (.t 37), none⟩
  (.fork ⟨(some 36), .ld none (.t 35), none⟩
  (.fork ⟨(some 39), .bslice 3 1 [(.t 38)], none⟩
  (.fork ⟨(some 40), .app 3 1 8 (.t 36) (.t 39), none⟩
  (.first ⟨(some 41), .iad 1 (.t 29) (.t 31), none⟩
  (.fork ⟨none, .st none (.t 41) (.t 40), none⟩
  .done
  .nope))
  .nope)
  .nope)
  (.fork ⟨(some 39), .bslice 3 1 [(.t 38)], none⟩
  (.fork ⟨(some 36), .ld none (.t 35), none⟩
  (.fork ⟨(some 40), .app 3 1 8 (.t 36) (.t 39), none⟩
  (.first ⟨(some 41), .iad 1 (.t 29) (.t 31), none⟩
  (.fork ⟨none, .st none (.t 41) (.t 40), none⟩
  .done
  .nope))
  .nope)
  .nope)
  .nope))
  .nope))
  (.fork ⟨(some 36), .ld none (.t 35), none⟩
  (.fork ⟨(some 31), .ld none (.t 30), none⟩
  (.fork ⟨(some 38), .ld none (.t 37), none⟩
  (.fork ⟨(some 39), .bslice 3 1 [(.t 38)], none⟩
  (.fork ⟨(some 40), .app 3 1 8 (.t 36) (.t 39), none⟩
  (.first ⟨(some 41), .iad 1 (.t 29) (.t 31), none⟩
  (.fork ⟨none, .st none (.t 41) (.t 40), none⟩
  .done
  .nope))
  .nope)
  .nope)
  .nope)
  (.fork ⟨(some 38), .ld none (.t 37), none⟩
  (.fork ⟨(some 31), .ld none (.t 30), none⟩
  (.fork ⟨(some 39), .bslice 3 1 [(.t 38)], none⟩
  (.fork ⟨(some 40), .app 3 1 8 (.t 36) (.t 39), none⟩
  (.first ⟨(some 41), .iad 1 (.t 29) (.t 31), none⟩
  (.fork ⟨none, .st none (.t 41) (.t 40), none⟩
  .done
  .nope))
  .nope)
  .nope)
  (.fork ⟨(some 39), .bslice 3 1 [(.t 38)], none⟩
  (.fork ⟨(some 31), .ld none (.t 30), none⟩
  (.fork ⟨(some 40), .app 3 1 8 (.t 36) (.t 39), none⟩
  (.first ⟨(some 41), .iad 1 (.t 29) (.t 31), none⟩
  (.fork ⟨none, .st none (.t 41) (.t 40), none⟩
  .done
  .nope))
  .nope)
  (.fork ⟨(some 40), .app 3 1 8 (.t 36) (.t 39), none⟩
  (.fork ⟨(some 31), .ld none (.t 30), none⟩
  (.first ⟨(some 41), .iad 1 (.t 29) (.t 31), none⟩
  (.fork ⟨none, .st none (.t 41) (.t 40), none⟩
  .done
  .nope))
  .nope)
  .nope))
  .nope))
  .nope))
  (.fork ⟨(some 38), .ld none (.t 37), none⟩
  (.fork ⟨(some 31), .ld none (.t 30), none⟩
  (.fork ⟨(some 36), .ld none (.t 35), none⟩
  (.fork ⟨(some 39), .bslice 3 1 [(.t 38)], none⟩
  (.fork ⟨(some 40), .app 3 1 8 (.t 36) (.t 39), none⟩
  (.first ⟨(some 41), .iad 1 (.t 29) (.t 31), none⟩
  (.fork ⟨none, .st none (.t 41) (.t 40), none⟩
  .done
  .nope))
  .nope)
  .nope)
  (.fork ⟨(some 39), .bslice 3 1 [(.t 38)], none⟩
  (.fork ⟨(some 36), .ld none (.t 35), none⟩
  (.fork ⟨(some 40), .app 3 1 8 (.t 36) (.t 39), none⟩
  (.first ⟨(some 41), .iad 1 (.t 29) (.t 31), none⟩
  (.fork ⟨none, .st none (.t 41) (.t 40), none⟩
  .done
  .nope))
  .nope)
  .nope)
  .nope))
  (.fork ⟨(some 36), .ld none (.t 35), none⟩
  (.fork ⟨(some 31), .ld none (.t 30), none⟩
  (.fork ⟨(some 39), .bslice 3 1 [(.t 38)], none⟩
  (.fork ⟨(some 40), .app 3 1 8 (.t 36) (.t 39), none⟩
  (.first ⟨(some 41), .iad 1 (.t 29) (.t 31), none⟩
  (.fork ⟨none, .st none (.t 41) (.t 40), none⟩
  .done
  .nope))
  .nope)
  .nope)
  (.fork ⟨(some 39), .bslice 3 1 [(.t 38)], none⟩
  (.fork ⟨(some 31), .ld none (.t 30), none⟩
  (.fork ⟨(some 40), .app 3 1 8 (.t 36) (.t 39), none⟩
  (.first ⟨(some 41), .iad 1 (.t 29) (.t 31), none⟩
  (.fork ⟨none, .st none (.t 41) (.t 40), none⟩
  .done
  .nope))
  .nope)
  (.fork ⟨(some 40), .app 3 1 8 (.t 36) (.t 39), none⟩
  (.fork ⟨(some 31), .ld none (.t 30), none⟩
  (.first ⟨(some 41), .iad 1 (.t 29) (.t 31), none⟩
  (.fork ⟨none, .st none (.t 41) (.t 40), none⟩
  .done
  .nope))
  .nope)
  .nope))
  .nope))
  (.fork ⟨(some 39), .bslice 3 1 [(.t 38)], none⟩
  (.fork ⟨(some 31), .ld none (.t 30), none⟩
  (.fork ⟨(some 36), .ld none (.t 35), none⟩
  (.fork ⟨(some 40), .app 3 1 8 (.t 36) (.t 39), none⟩
  (.first ⟨(some 41), .iad 1 (.t 29) (.t 31), none⟩
  (.fork ⟨none, .st none (.t 41) (.t 40), none⟩
  .done
  .nope))
  .nope)
  .nope)
  (.fork ⟨(some 36), .ld none (.t 35), none⟩
  (.fork ⟨(some 31), .ld none (.t 30), none⟩
  (.fork ⟨(some 40), .app 3 1 8 (.t 36) (.t 39), none⟩
  (.first ⟨(some 41), .iad 1 (.t 29) (.t 31), none⟩
  (.fork ⟨none, .st none (.t 41) (.t 40), none⟩
  .done
  .nope))
  .nope)
  (.fork ⟨(some 40), .app 3 1 8 (.t 36) (.t 39), none⟩
  (.fork ⟨(some 31), .ld none (.t 30), none⟩
  (.first ⟨(some 41), .iad 1 (.t 29) (.t 31), none⟩
  (.fork ⟨none, .st none (.t 41) (.t 40), none⟩
  .done
  .nope))
  .nope)
  .nope))
  .nope))
  .nope)))
  .nope))))
  (.fork ⟨(some 38), .ld none (.t 37), none⟩
  (.fork ⟨(some 31), .ld none (.t 30), none⟩
  (.fork ⟨(some 34), .ld none (.t 33), none⟩
  (.first ⟨(some 35), .iad 1 (.t 32) (.t 34), none⟩
  (.fork ⟨(some 36), .ld none (.t 35), none⟩
  (.fork ⟨(some 39), .bslice 3 1 [(.t 38)], none⟩
  (.fork ⟨(some 40), .app 3 1 8 (.t 36) (.t 39), none⟩
  (.first ⟨(some 41), .iad 1 (.t 29) (.t 31), none⟩
  (.fork ⟨none, .st none (.t 41) (.t 40), none⟩
  .done
  .nope))
  .nope)
  .nope)
  (.fork ⟨(some 39), .bslice 3 1 [(.t 38)], none⟩
  (.fork ⟨(some 36), .ld none (.t 35), none⟩
  (.fork ⟨(some 40), .app 3 1 8 (.t 36) (.t 39), none⟩
  (.first ⟨(some 41), .iad 1 (.t 29) (.t 31), none⟩
  (.fork ⟨none, .st none (.t 41) (.t 40), none⟩
  .done
  .nope))
  .nope)
  .nope)
  .nope)))
  (.fork ⟨(some 39), .bslice 3 1 [(.t 38)], none⟩
  (.fork ⟨(some 34), .ld none (.t 33), none⟩
  (.first ⟨(some 35), .iad 1 (.t 32) (.t 34), none⟩
  (.fork ⟨(some 36), .ld none (.t 35), none⟩
  (.fork ⟨(some 40), .app 3 1 8 (.t 36) (.t 39), none⟩
  (.first ⟨(some 41), .iad 1 (.t 29) (.t 31), none⟩
  (.fork ⟨none, .st none (.t 41) (.t 40), none⟩
  .done
  .nope))
  .nope)
  .nope))
  .nope)
  .nope))
  (.fork ⟨(some 34), .ld none (.t 33), none⟩
  (.first ⟨(some 35), .iad 1 (.t 32) (.t 34), none⟩
  (.fork ⟨(some 31), .ld none (.t 30), none⟩
  (.fork ⟨(some 36), .ld none (.t 35), none⟩
  (.fork ⟨(some 39), .bslice 3 1 [(.t 38)], none⟩
  (.fork ⟨(some 40), .app 3 1 8 (.t 36) (.t 39), none⟩
  (.first ⟨(some 41), .iad 1 (.t 29) (.t 31), none⟩
  (.fork ⟨none, .st none (.t 41) (.t 40), none⟩
  .done
  .nope))
  .nope)
  .nope)
  (.fork ⟨(some 39), .bslice 3 1 [(.t 38)], none⟩
  (.fork ⟨(some 36), .ld none (.t 35), none⟩
  (.fork ⟨(some 40), .app 3 1 8 (.t 36) (.t 39), none⟩
  (.first ⟨(some 41), .iad 1 (.t 29) (.t 31), none⟩
  (.fork ⟨none, .st none (.t 41) (.t 40), none⟩
  .done
  .nope))
  .nope)
  .nope)
  .nope))
  (.fork ⟨(some 36), .ld none (.t 35), none⟩
  (.fork ⟨(some 31), .ld none (.t 30), none⟩
  (.fork ⟨(some 39), .bslice 3 1 [(.t 38)], none⟩
  (.fork ⟨(some 40), .app 3 1 8 (.t 36) (.t 39), none⟩
  (.first ⟨(some 41), .iad 1 (.t 29) (.t 31), none⟩
  (.fork ⟨none, .st none (.t 41) (.t 40), none⟩
  .done
  .nope))
  .nope)
  .nope)
  (.fork ⟨(some 39), .bslice 3 1 [(.t 38)], none⟩
  (.fork ⟨(some 31), .ld none (.t 30), none⟩
  (.fork ⟨(some 40), .app 3 1 8 (.t 36) (.t 39), none⟩
  (.first ⟨(some 41), .iad 1 (.t 29) (.t 31), none⟩
  (.fork ⟨none, .st none (.t 41) (.t 40), none⟩
  .done
  .nope))
  .nope)
  (.fork ⟨(some 40), .app 3 1 8 (.t 36) (.t 39), none⟩
  (.fork ⟨(some 31), .ld none (.t 30), none⟩
  (.first ⟨(some 41), .iad 1 (.t 29) (.t 31), none⟩
  (.fork ⟨none, .st none (.t 41) (.t 40), none⟩
  .done
  .nope))
  .nope)
  .nope))
  .nope))
  (.fork ⟨(some 39), .bslice 3 1 [(.t 38)], none⟩
  (.fork ⟨(some 31), .ld none (.t 30), none⟩
  (.fork ⟨(some 36), .ld none (.t 35), none⟩
  (.fork ⟨(some 40), .app 3 1 8 (.t 36) (.t 39), none⟩
  (.first ⟨(some 41), .iad 1 (.t 29) (.t 31), none⟩
  (.fork ⟨none, .st none (.t 41) (.t 40), none⟩
  .done
  .nope))
  .nope)
  .nope)
  (.fork ⟨(some 36), .ld none (.t 35), none⟩
  (.fork ⟨(some 31), .ld none (.t 30), none⟩
  (.fork ⟨(some 40), .app 3 1 8 (.t 36) (.t 39), none⟩
  (.first ⟨(some 41), .iad 1 (.t 29) (.t 31), none⟩
  (.fork ⟨none, .st none (.t 41) (.t 40), none⟩
  .done
  .nope))
  .nope)
  (.fork ⟨(some 40), .app 3 1 8 (.t 36) (.t 39), none⟩
  (.fork ⟨(some 31), .ld none (.t 30), none⟩
  (.first ⟨(some 41), .iad 1 (.t 29) (.t 31), none⟩
  (.fork ⟨none, .st none (.t 41) (.t 40), none⟩
  .done
  .nope))
  .nope)
  .nope))
  .nope))
  .nope))))
  (.fork ⟨(some 39), .bslice 3 1 [(.t 38)], none⟩
  (.fork ⟨(some 31), .ld none (.t 30), none⟩
  (.fork ⟨(some 34), .ld none (.t 33), none⟩
  (.first ⟨(some 35), .iad 1 (.t 32) (.t 34), none⟩
  (.fork ⟨(some 36), .ld none (.t 35), none⟩
  (.fork ⟨(some 40), .app 3 1 8 (.t 36) (.t 39), none⟩
  (.first ⟨(some 41), .iad 1 (.t 29) (.t 31), none⟩
  (.fork ⟨none, .st none (.t 41) (.t 40), none⟩
  .done
  .nope))
  .nope)
  .nope))
  .nope)
  (.fork ⟨(some 34), .ld none (.t 33), none⟩
  (.first ⟨(some 35), .iad 1 (.t 32) (.t 34), none⟩
  (.fork ⟨(some 31), .ld none (.t 30), none⟩
  (.fork ⟨(some 36), .ld none (.t 35), none⟩
  (.fork ⟨(some 40), .app 3 1 8 (.t 36) (.t 39), none⟩
  (.first ⟨(some 41), .iad 1 (.t 29) (.t 31), none⟩
  (.fork ⟨none, .st none (.t 41) (.t 40), none⟩
  .done
  .nope))
  .nope)
  .nope)
  (.fork ⟨(some 36), .ld none (.t 35), none⟩
  (.fork ⟨(some 31), .ld none (.t 30), none⟩
  (.fork ⟨(some 40), .app 3 1 8 (.t 36) (.t 39), none⟩
  (.first ⟨(some 41), .iad 1 (.t 29) (.t 31), none⟩
  (.fork ⟨none, .st none (.t 41) (.t 40), none⟩
  .done
  .nope))
  .nope)
  (.fork ⟨(some 40), .app 3 1 8 (.t 36) (.t 39), none⟩
  (.fork ⟨(some 31), .ld none (.t 30), none⟩
  (.first ⟨(some 41), .iad 1 (.t 29) (.t 31), none⟩
  (.fork ⟨none, .st none (.t 41) (.t 40), none⟩
  .done
  .nope))
  .nope)
  .nope))
  .nope)))
  .nope))
  .nope)))
  .nope))))))))
abbrev c15_9 : AC := .seq c15_7 c15_8
abbrev c15_10 : AC := .seq c15_6 c15_9
abbrev c15_11 : AC := .block 1 c15_10
abbrev c15_12 : AC := .reg [⟨(some 42), .bin .add (.t 12) (.k (.I 1)), none⟩,
  ⟨(some 12), .mv (.t 42), none⟩] false
abbrev c15_13 : AC := .seq c15_11 c15_12
abbrev c15_14 : AC := .seq c15_5 c15_13
abbrev c15_15 : AC := .seq c15_4 c15_14
abbrev c15_16 : AC := .loop c15_15
abbrev c15_17 : AC := .block 0 c15_16
abbrev c15_18 : AC := .seq c15_3 c15_17
abbrev c15_19 : AC := .reg [⟨(some 43), .mv (.t 5), none⟩,
  ⟨(some 4), .mv (.t 43), none⟩] false
abbrev c15_20 : AC := .seq c15_19 .ret
abbrev c15_21 : AC := .seq c15_18 c15_20
abbrev c15_22 : AC := .seq c15_2 c15_21
abbrev c15_23 : AC := .seq c15_1 c15_22
abbrev c15 : AC := c15_23
theorem code15 : fnCode Try.prog 15 = some (c15, [4], 44) := by kernel_rfl

theorem pred_nat (i : Nat) : ((i : Int) - 1).toNat = i - 1 := by omega
set_option maxHeartbeats 8000000 in
theorem x13 (n : Nat) (hn : n ≤ 12) (p : List (Nat × Nat)) (hpl : p.length ≤ 1000) (h1 : ∀ i, i < p.length → (nth p i).1 < (nth p i).2 ∧ (nth p i).2 < n) (h2 : ∀ i, i < p.length → 0 < i → lexP (nth p (i - 1)) (nth p i)) :
    FnR Try.prog 13 [.I (n : Int), .c (PR p)] [.c (.B true)] := by
  have z0 : decide ((n : Int) < 0) = false := decide_eq_false (by omega)
  have z1 : decide ((12 : Int) < (n : Int)) = false := decide_eq_false (by omega)
  refine fn_walk code13 (by simp) ?_
  (repeat' (first | refine NextAt.mk (fun hc => ?_) (fun pre n v post hc hkey => ?_) | refine Sni.mk (fun hc => ?_) ?_ | refine Both.mk ?_ ?_ | refine AW_seq ?_ | refine AW_block ?_ | ((first | refine AW_reg ?_ | refine AW_cond ?_ | refine AW_skip ?_ | refine AW_exit ?_ | refine AW_ret ?_ | refine AW_regD (by kernel_rfl) ?_ | refine AW_regX (by kernel_rfl) ?_ | refine CallAtG.t (Eq.refl true) ?_ | refine CallAtG.f (Eq.refl false) ?_); try simp (disch := omega) only [go_sem, seval, reduceCtorEq, ↓reduceIte, beq_dec, Int.toNat_natCast, IntKind.signed, IntKind.bits, z0, z1]) | refine And.intro (fun hc => (?_ : AW _ _ _ _)) (fun hc => (?_ : AW _ _ _ _)) | simp (disch := omega) only [go_sem, seval, reduceCtorEq, ↓reduceIte, beq_dec, Int.toNat_natCast, IntKind.signed, IntKind.bits, z0, z1] | (refine And.intro ?_ ?_; focus (first | (intros; omega) | (intros; simp_all; done))) | refine And.intro (?_ : CallAt _ _ _ _ _ _ _ _) ?_ | refine And.intro (?_ : CallAt _ _ _ _ _ _ _ _ ∧ _) ?_ | refine And.intro (?_ : AW _ _ _ _) ?_ | fail))
  refine AW_loopK [0, 1, 13, 14] [4, 5, 6, 15, 16, 17, 18, 19, 20, 21, 22, 23, 24, 25, 26, 27, 28, 29, 30, 31, 32, 33, 34, 35, 36, 37, 38, 39, 40, 41, 42, 43, 44, 45, 46, 47, 48, 49, 50, 51, 52, 53, 54, 55, 56, 57, 58, 59, 60, 61, 62, 63, 64, 65, 66, 67, 68, 69, 70, 71] (fun i : Nat => i ≤ p.length) (fun i => [(15, .I i)]) (fun _ => []) (fun i => p.length - i) 0 (by omega) ?_ ?_
  · simp (disch := omega) only [go_sem, seval, reduceCtorEq, ↓reduceIte, beq_dec, Int.toNat_natCast, IntKind.signed, IntKind.bits, Int.natCast_zero]
  · intro i hi
    rcases Nat.lt_or_ge i p.length with hil | hil
    · have hge := getD_map pc p i [] hil
      have hkk : ((i : Int) < (p.length : Int)) = True := eq_true (by omega)
      obtain ⟨a1, a2⟩ := h1 i hil
      have y0 : decide (((nth p i).1 : Int) < 0) = false := decide_eq_false (by omega)
      have y1 : decide (((nth p i).2 : Int) ≤ ((nth p i).1 : Int)) = false := decide_eq_false (by omega)
      have y2 : decide ((n : Int) ≤ ((nth p i).2 : Int)) = false := decide_eq_false (by omega)
      by_cases hi0 : i = 0
      · have k0 : decide ((0 : Int) < (i : Int)) = false := decide_eq_false (by omega)
        have hge1 := getD_map pc p (i - 1) [] (by omega)
        generalize nth p i = P at *
        generalize nth p (i - 1) = P' at *
        (repeat' (first | refine NextAt.mk (fun hc => ?_) (fun pre n v post hc hkey => ?_) | refine Sni.mk (fun hc => ?_) ?_ | refine Both.mk ?_ ?_ | refine AW_seq ?_ | refine AW_block ?_ | ((first | refine AW_reg ?_ | refine AW_cond ?_ | refine AW_skip ?_ | refine AW_exit ?_ | refine AW_ret ?_ | refine AW_regD (by kernel_rfl) ?_ | refine AW_regX (by kernel_rfl) ?_ | refine CallAtG.t (Eq.refl true) ?_ | refine CallAtG.f (Eq.refl false) ?_); try simp (disch := omega) only [go_sem, seval, reduceCtorEq, ↓reduceIte, beq_dec, Int.toNat_natCast, IntKind.signed, IntKind.bits, hge, hge1, pc, pred_nat, Int.toNat_natCast, List.length_map, hkk, y0, y1, y2, k0]) | refine And.intro (fun hc => (?_ : AW _ _ _ _)) (fun hc => (?_ : AW _ _ _ _)) | simp (disch := omega) only [go_sem, seval, reduceCtorEq, ↓reduceIte, beq_dec, Int.toNat_natCast, IntKind.signed, IntKind.bits, hge, hge1, pc, pred_nat, Int.toNat_natCast, List.length_map, hkk, y0, y1, y2, k0] | (refine And.intro ?_ ?_; focus (first | (intros; omega) | (intros; simp_all; done))) | refine And.intro (?_ : CallAt _ _ _ _ _ _ _ _) ?_ | refine And.intro (?_ : CallAt _ _ _ _ _ _ _ _ ∧ _) ?_ | refine And.intro (?_ : AW _ _ _ _) ?_ | fail))
        refine .mk (i + 1) (by omega) (by omega) ?_
        simp (disch := omega) only [go_sem, seval, reduceCtorEq, ↓reduceIte, beq_dec, Int.toNat_natCast, IntKind.signed, IntKind.bits, Int.natCast_add, Int.natCast_one]
      · have k0 : decide ((0 : Int) < (i : Int)) = true := decide_eq_true (by omega)
        have hge1 := getD_map pc p (i - 1) [] (by omega)
        have hlx := h2 i hil (by omega)
        have q1 : (0 : Int) ≤ (i : Int) - 1 := by omega
        have q2 : (i : Int) - 1 < (p.length : Int) := by omega
        generalize nth p i = P at *
        generalize nth p (i - 1) = P' at *
        unfold lexP at hlx
        have m1 : decide ((P.1 : Int) < (P'.1 : Int)) = false := decide_eq_false (by omega)
        by_cases he : P.1 = P'.1
        · have m2 : decide ((P.1 : Int) = (P'.1 : Int)) = true := decide_eq_true (by omega)
          have m3 : decide ((P.2 : Int) ≤ (P'.2 : Int)) = false := decide_eq_false (by omega)
          (repeat' (first | refine NextAt.mk (fun hc => ?_) (fun pre n v post hc hkey => ?_) | refine Sni.mk (fun hc => ?_) ?_ | refine Both.mk ?_ ?_ | refine AW_seq ?_ | refine AW_block ?_ | ((first | refine AW_reg ?_ | refine AW_cond ?_ | refine AW_skip ?_ | refine AW_exit ?_ | refine AW_ret ?_ | refine AW_regD (by kernel_rfl) ?_ | refine AW_regX (by kernel_rfl) ?_ | refine CallAtG.t (Eq.refl true) ?_ | refine CallAtG.f (Eq.refl false) ?_); try simp (disch := omega) only [go_sem, seval, reduceCtorEq, ↓reduceIte, beq_dec, Int.toNat_natCast, IntKind.signed, IntKind.bits, hge, hge1, pc, pred_nat, Int.toNat_natCast, List.length_map, hkk, y0, y1, y2, k0, m1, m2, m3, q1, q2]) | refine And.intro (fun hc => (?_ : AW _ _ _ _)) (fun hc => (?_ : AW _ _ _ _)) | simp (disch := omega) only [go_sem, seval, reduceCtorEq, ↓reduceIte, beq_dec, Int.toNat_natCast, IntKind.signed, IntKind.bits, hge, hge1, pc, pred_nat, Int.toNat_natCast, List.length_map, hkk, y0, y1, y2, k0, m1, m2, m3, q1, q2] | (refine And.intro ?_ ?_; focus (first | (intros; omega) | (intros; simp_all; done))) | refine And.intro (?_ : CallAt _ _ _ _ _ _ _ _) ?_ | refine And.intro (?_ : CallAt _ _ _ _ _ _ _ _ ∧ _) ?_ | refine And.intro (?_ : AW _ _ _ _) ?_ | fail))
          refine .mk (i + 1) (by omega) (by omega) ?_
          simp (disch := omega) only [go_sem, seval, reduceCtorEq, ↓reduceIte, beq_dec, Int.toNat_natCast, IntKind.signed, IntKind.bits, Int.natCast_add, Int.natCast_one]
        · have m2 : decide ((P.1 : Int) = (P'.1 : Int)) = false := decide_eq_false (by omega)
          (repeat' (first | refine NextAt.mk (fun hc => ?_) (fun pre n v post hc hkey => ?_) | refine Sni.mk (fun hc => ?_) ?_ | refine Both.mk ?_ ?_ | refine AW_seq ?_ | refine AW_block ?_ | ((first | refine AW_reg ?_ | refine AW_cond ?_ | refine AW_skip ?_ | refine AW_exit ?_ | refine AW_ret ?_ | refine AW_regD (by kernel_rfl) ?_ | refine AW_regX (by kernel_rfl) ?_ | refine CallAtG.t (Eq.refl true) ?_ | refine CallAtG.f (Eq.refl false) ?_); try simp (disch := omega) only [go_sem, seval, reduceCtorEq, ↓reduceIte, beq_dec, Int.toNat_natCast, IntKind.signed, IntKind.bits, hge, hge1, pc, pred_nat, Int.toNat_natCast, List.length_map, hkk, y0, y1, y2, k0, m1, m2, q1, q2]) | refine And.intro (fun hc => (?_ : AW _ _ _ _)) (fun hc => (?_ : AW _ _ _ _)) | simp (disch := omega) only [go_sem, seval, reduceCtorEq, ↓reduceIte, beq_dec, Int.toNat_natCast, IntKind.signed, IntKind.bits, hge, hge1, pc, pred_nat, Int.toNat_natCast, List.length_map, hkk, y0, y1, y2, k0, m1, m2, q1, q2] | (refine And.intro ?_ ?_; focus (first | (intros; omega) | (intros; simp_all; done))) | refine And.intro (?_ : CallAt _ _ _ _ _ _ _ _) ?_ | refine And.intro (?_ : CallAt _ _ _ _ _ _ _ _ ∧ _) ?_ | refine And.intro (?_ : AW _ _ _ _) ?_ | fail))
          refine .mk (i + 1) (by omega) (by omega) ?_
          simp (disch := omega) only [go_sem, seval, reduceCtorEq, ↓reduceIte, beq_dec, Int.toNat_natCast, IntKind.signed, IntKind.bits, Int.natCast_add, Int.natCast_one]
    · obtain rfl : i = p.length := by omega
      have hkk : ((p.length : Int) < (p.length : Int)) = False := eq_false (by omega)
      (repeat' (first | refine NextAt.mk (fun hc => ?_) (fun pre n v post hc hkey => ?_) | refine Sni.mk (fun hc => ?_) ?_ | refine Both.mk ?_ ?_ | refine AW_seq ?_ | refine AW_block ?_ | ((first | refine AW_reg ?_ | refine AW_cond ?_ | refine AW_skip ?_ | refine AW_exit ?_ | refine AW_ret ?_ | refine AW_regD (by kernel_rfl) ?_ | refine AW_regX (by kernel_rfl) ?_ | refine CallAtG.t (Eq.refl true) ?_ | refine CallAtG.f (Eq.refl false) ?_); try simp (disch := omega) only [go_sem, seval, reduceCtorEq, ↓reduceIte, beq_dec, Int.toNat_natCast, IntKind.signed, IntKind.bits, List.length_map, hkk]) | refine And.intro (fun hc => (?_ : AW _ _ _ _)) (fun hc => (?_ : AW _ _ _ _)) | simp (disch := omega) only [go_sem, seval, reduceCtorEq, ↓reduceIte, beq_dec, Int.toNat_natCast, IntKind.signed, IntKind.bits, List.length_map, hkk] | (refine And.intro ?_ ?_; focus (first | (intros; omega) | (intros; simp_all; done))) | refine And.intro (?_ : CallAt _ _ _ _ _ _ _ _) ?_ | refine And.intro (?_ : CallAt _ _ _ _ _ _ _ _ ∧ _) ?_ | refine And.intro (?_ : AW _ _ _ _) ?_ | fail))
abbrev TN (G : List (List Nat)) : CD := .sl 1 (G.map fun r => [NR r])
abbrev rN (G : List (List Nat)) : List (List (List CD)) := G.map fun r => r.map nc
theorem rowsCD_rN (G : List (List Nat)) : rowsCD 1 (rN G) = TN G := by unfold rowsCD; rw [List.map_map]; rfl
theorem rN_get (G : List (List Nat)) (h : Nat) : (rN G).getD h [] = (G.getD h []).map nc := by
  simp only [rN, List.getD, List.getElem?_map]
  cases G[h]? <;> rfl
theorem rN_set (G : List (List Nat)) (h : Nat) (r : List Nat) : (rN G).set h (r.map nc) = rN (G.set h r) := by
  simp [rN, List.map_set]
def inM (p : List (Nat × Nat)) (k : Nat) (q : Nat × Nat) (h : Nat) (X : List (List (List CD))) (R : List (List CD)) : St :=
  ⟨44, [(5, .own 9), (7, .ptr 7 0), (10, .c (PR p)), (11, .I p.length), (12, .I k)], [(7, .box 38 [.I (q.1 : Int), .I (q.2 : Int)]), (9, .rows 31 3 1 X (some h) (some 902)), (902, .arr 3 1 R)]⟩
set_option maxHeartbeats 40000000 in
theorem r15a (p : List (Nat × Nat)) (k : Nat) (q : Nat × Nat) (X : List (List (List CD))) (R : List (List CD)) (hq : q.1 < X.length) (hx : X.length ≤ 12) (hR : R.length ≤ 1000) :
    AW Try.prog c15_7 (cutQ (inM p k q q.1 X (R ++ [[.I (q.2 : Int)]]))) (inM p k q q.1 X R) := by
  refine AW_regX (by kernel_rfl) ?_
  unfold inM
  (repeat' (first | refine NextAt.mk (fun hc => ?_) (fun pre n v post hc hkey => ?_) | refine Sni.mk (fun hc => ?_) ?_ | refine Both.mk ?_ ?_ | refine AW_seq ?_ | refine AW_block ?_ | ((first | refine AW_reg ?_ | refine AW_cond ?_ | refine AW_skip ?_ | refine AW_exit ?_ | refine AW_ret ?_ | refine AW_regD (by kernel_rfl) ?_ | refine AW_regX (by kernel_rfl) ?_ | refine CallAtG.t (Eq.refl true) ?_ | refine CallAtG.f (Eq.refl false) ?_); try simp (disch := omega) only [go_sem, seval, reduceCtorEq, ↓reduceIte, beq_dec, Int.toNat_natCast, IntKind.signed, IntKind.bits, Int.toNat_natCast, maxLen]) | refine And.intro (fun hc => (?_ : AW _ _ _ _)) (fun hc => (?_ : AW _ _ _ _)) | simp (disch := omega) only [go_sem, seval, reduceCtorEq, ↓reduceIte, beq_dec, Int.toNat_natCast, IntKind.signed, IntKind.bits, Int.toNat_natCast, maxLen] | (refine And.intro ?_ ?_; focus (first | (intros; omega) | (intros; simp_all; done))) | refine And.intro (?_ : CallAt _ _ _ _ _ _ _ _) ?_ | refine And.intro (?_ : CallAt _ _ _ _ _ _ _ _ ∧ _) ?_ | refine And.intro (?_ : AW _ _ _ _) ?_ | fail))
  repeat' apply And.intro
  all_goals first | omega | assumption | skip
  all_goals trace_state
theorem hold7 {Q : Exit → St → Prop} {σ : St} (h : Hold (AW Try.prog c15_7 Q σ)) : AW Try.prog c15_7 Q σ := h.out
end Go.Proofs.Ytggcpnnmmcnogaa

-- P p_b.txt
open Go Go.AL Go.RowKit
namespace Go.Proofs.Ytggcpnnmmcnogaa
set_option maxRecDepth 20000
set_option maxHeartbeats 40000000 in
theorem r15b (p : List (Nat × Nat)) (k : Nat) (q : Nat × Nat) (X : List (List (List CD))) (R : List (List CD)) (hq : q.2 < X.length) (hx : X.length ≤ 12) (hR : R.length ≤ 1000) :
    AW Try.prog c15_8 (cutQ (inM p k q q.2 X (R ++ [[.I (q.1 : Int)]]))) (inM p k q q.2 X R) := by
  refine AW_regX (by kernel_rfl) ?_
  unfold inM
  (repeat' (first | refine NextAt.mk (fun hc => ?_) (fun pre n v post hc hkey => ?_) | refine Sni.mk (fun hc => ?_) ?_ | refine Both.mk ?_ ?_ | refine AW_seq ?_ | refine AW_block ?_ | ((first | refine AW_reg ?_ | refine AW_cond ?_ | refine AW_skip ?_ | refine AW_exit ?_ | refine AW_ret ?_ | refine AW_regD (by kernel_rfl) ?_ | refine AW_regX (by kernel_rfl) ?_ | refine CallAtG.t (Eq.refl true) ?_ | refine CallAtG.f (Eq.refl false) ?_); try simp (disch := omega) only [go_sem, seval, reduceCtorEq, ↓reduceIte, beq_dec, Int.toNat_natCast, IntKind.signed, IntKind.bits, Int.toNat_natCast, maxLen]) | refine And.intro (fun hc => (?_ : AW _ _ _ _)) (fun hc => (?_ : AW _ _ _ _)) | simp (disch := omega) only [go_sem, seval, reduceCtorEq, ↓reduceIte, beq_dec, Int.toNat_natCast, IntKind.signed, IntKind.bits, Int.toNat_natCast, maxLen] | (refine And.intro ?_ ?_; focus (first | (intros; omega) | (intros; simp_all; done))) | refine And.intro (?_ : CallAt _ _ _ _ _ _ _ _) ?_ | refine And.intro (?_ : CallAt _ _ _ _ _ _ _ _ ∧ _) ?_ | refine And.intro (?_ : AW _ _ _ _) ?_ | fail))
  repeat' apply And.intro
  all_goals first | omega | assumption | skip
  all_goals trace_state
theorem hold15_3 {Q : Exit → St → Prop} {σ : St} (h : Hold (AW Try.prog c15_3 Q σ)) : AW Try.prog c15_3 Q σ := h.out
theorem hold15_19 {Q : Exit → St → Prop} {σ : St} (h : Hold (AW Try.prog c15_19 Q σ)) : AW Try.prog c15_19 Q σ := h.out
theorem madeN_take (n : Nat) (p : List (Nat × Nat)) (k : Nat) (h : k < p.length) : madeN n (p.take (k + 1)) = addE (madeN n (p.take k)) (nth p k) := by
  unfold madeN
  rw [List.take_succ_eq_append_getElem h, List.foldl_append, nth_eq p k h]; rfl
set_option maxHeartbeats 8000000 in
theorem x15 (n : Nat) (hn : n ≤ 12) (p : List (Nat × Nat)) (hpl : p.length ≤ 200) (h1 : ∀ i, i < p.length → (nth p i).1 < (nth p i).2 ∧ (nth p i).2 < n) : FnR Try.prog 15 [.I (n : Int), .c (PR p)] [.c (TN (madeN n p))] := by
  refine fn_walk code15 (by simp) ?_
  (repeat' (first | (with_reducible refine hold15_3 ?_; try simp (disch := omega) only [go_sem, seval, reduceCtorEq, ↓reduceIte, beq_dec, Int.toNat_natCast, IntKind.signed, IntKind.bits, maxLen, Int.toNat_natCast]) | refine NextAt.mk (fun hc => ?_) (fun pre n v post hc hkey => ?_) | refine Sni.mk (fun hc => ?_) ?_ | refine Both.mk ?_ ?_ | refine AW_seq ?_ | refine AW_block ?_ | ((first | refine AW_reg ?_ | refine AW_cond ?_ | refine AW_skip ?_ | refine AW_exit ?_ | refine AW_ret ?_ | refine AW_regD (by kernel_rfl) ?_ | refine AW_regX (by kernel_rfl) ?_ | refine CallAtG.t (Eq.refl true) ?_ | refine CallAtG.f (Eq.refl false) ?_); try simp (disch := omega) only [go_sem, seval, reduceCtorEq, ↓reduceIte, beq_dec, Int.toNat_natCast, IntKind.signed, IntKind.bits, maxLen, Int.toNat_natCast]) | refine And.intro (fun hc => (?_ : AW _ _ _ _)) (fun hc => (?_ : AW _ _ _ _)) | simp (disch := omega) only [go_sem, seval, reduceCtorEq, ↓reduceIte, beq_dec, Int.toNat_natCast, IntKind.signed, IntKind.bits, maxLen, Int.toNat_natCast] | (refine And.intro ?_ ?_; focus (first | (intros; omega) | (intros; simp_all; done))) | refine And.intro (?_ : CallAt _ _ _ _ _ _ _ _) ?_ | refine And.intro (?_ : CallAt _ _ _ _ _ _ _ _ ∧ _) ?_ | refine And.intro (?_ : AW _ _ _ _) ?_ | fail))
  refine ⟨AW_toRows 9 3 1 (by rfl) (fun y hy => List.eq_of_mem_replicate hy) ?_⟩
  have tz : ((List.replicate n [CD.nil]).map fun _ => ([] : List (List CD))) = rN (madeN n (p.take 0)) := by
    rw [List.map_replicate, List.take_zero]
    show _ = rN (List.replicate n [])
    simp [rN]
  rw [tz]
  simp (disch := omega) only [go_sem, seval, reduceCtorEq, ↓reduceIte, beq_dec, Int.toNat_natCast, IntKind.signed, IntKind.bits]
  (repeat' (first | refine NextAt.mk (fun hc => ?_) (fun pre n v post hc hkey => ?_) | refine Sni.mk (fun hc => ?_) ?_ | refine Both.mk ?_ ?_ | refine AW_seq ?_ | refine AW_block ?_ | ((first | refine AW_reg ?_ | refine AW_cond ?_ | refine AW_skip ?_ | refine AW_exit ?_ | refine AW_ret ?_ | refine AW_regD (by kernel_rfl) ?_ | refine AW_regX (by kernel_rfl) ?_ | refine CallAtG.t (Eq.refl true) ?_ | refine CallAtG.f (Eq.refl false) ?_); try simp (disch := omega) only [go_sem, seval, reduceCtorEq, ↓reduceIte, beq_dec, Int.toNat_natCast, IntKind.signed, IntKind.bits]) | refine And.intro (fun hc => (?_ : AW _ _ _ _)) (fun hc => (?_ : AW _ _ _ _)) | simp (disch := omega) only [go_sem, seval, reduceCtorEq, ↓reduceIte, beq_dec, Int.toNat_natCast, IntKind.signed, IntKind.bits] | (refine And.intro ?_ ?_; focus (first | (intros; omega) | (intros; simp_all; done))) | refine And.intro (?_ : CallAt _ _ _ _ _ _ _ _) ?_ | refine And.intro (?_ : CallAt _ _ _ _ _ _ _ _ ∧ _) ?_ | refine And.intro (?_ : AW _ _ _ _) ?_ | fail))
  refine AW_loopK [5, 10, 11] [7, 12, 13, 14, 15, 16, 17, 18, 19, 20, 21, 22, 23, 24, 25, 26, 27, 28, 29, 30, 31, 32, 33, 34, 35, 36, 37, 38, 39, 40, 41, 42] (fun k : Nat => k ≤ p.length) (fun k => [(12, .I k)]) (fun k => [(9, .rows 31 3 1 (rN (madeN n (p.take k))) none none)]) (fun k => p.length - k) 0 (by omega) ?_ ?_
  · simp (disch := omega) only [go_sem, seval, reduceCtorEq, ↓reduceIte, beq_dec, Int.toNat_natCast, IntKind.signed, IntKind.bits, Int.natCast_zero]
  · intro k hk
    rcases Nat.lt_or_ge k p.length with hkl | hkl
    · have hge := getD_map pc p k [] hkl
      have hkk : ((k : Int) < (p.length : Int)) = True := eq_true (by omega)
      obtain ⟨a1, a2⟩ := h1 k hkl
      have hst := madeN_take n p k hkl
      have hGl := madeN_len n (p.take k)
      have hrl := fun v => madeN_row n (p.take k) v
      have htk : (p.take k).length ≤ 200 := by rw [List.length_take]; omega
      have hrow1 := hrl (nth p k).1
      generalize hG' : madeN n (p.take (k + 1)) = G' at *
      generalize madeN n (p.take k) = G at *
      generalize hQ : nth p k = q at *
      have hG1l : (G.set q.1 (G.getD q.1 [] ++ [q.2])).length = n := by rw [List.length_set]; exact hGl
      have hrow2 : ((G.set q.1 (G.getD q.1 [] ++ [q.2])).getD q.2 []).length ≤ 401 := by
        have := push_len G q.1 q.2 q.2
        have := hrl q.2
        omega
      have s1 : (rN G).set q.1 ((G.getD q.1 []).map nc ++ [[.I (q.2 : Int)]]) = rN (G.set q.1 (G.getD q.1 [] ++ [q.2])) := by
        rw [← rN_set, List.map_append]; rfl
      have s2 : (rN (G.set q.1 (G.getD q.1 [] ++ [q.2]))).set q.2 (((G.set q.1 (G.getD q.1 [] ++ [q.2])).getD q.2 []).map nc ++ [[.I (q.1 : Int)]]) = rN G' := by
        rw [hst]
        have h := rN_set (G.set q.1 (G.getD q.1 [] ++ [q.2])) q.2 ((G.set q.1 (G.getD q.1 [] ++ [q.2])).getD q.2 [] ++ [q.1])
        rw [List.map_append] at h
        exact h
      have t1 := rN_get G q.1
      have t2 := rN_get (G.set q.1 (G.getD q.1 [] ++ [q.2])) q.2
      have L0 : (rN G).length = n := by rw [List.length_map]; exact hGl
      have L1 : (rN (G.set q.1 (G.getD q.1 [] ++ [q.2]))).length = n := by rw [List.length_map]; exact hG1l
      generalize G.set q.1 (G.getD q.1 [] ++ [q.2]) = G1 at *
      (repeat' (first | (with_reducible refine hold7 ?_; try simp (disch := omega) only [go_sem, seval, reduceCtorEq, ↓reduceIte, beq_dec, Int.toNat_natCast, IntKind.signed, IntKind.bits, hge, pc, Int.toNat_natCast, List.length_map, hkk]) | refine NextAt.mk (fun hc => ?_) (fun pre n v post hc hkey => ?_) | refine Sni.mk (fun hc => ?_) ?_ | refine Both.mk ?_ ?_ | refine AW_seq ?_ | refine AW_block ?_ | ((first | refine AW_reg ?_ | refine AW_cond ?_ | refine AW_skip ?_ | refine AW_exit ?_ | refine AW_ret ?_ | refine AW_regD (by kernel_rfl) ?_ | refine AW_regX (by kernel_rfl) ?_ | refine CallAtG.t (Eq.refl true) ?_ | refine CallAtG.f (Eq.refl false) ?_); try simp (disch := omega) only [go_sem, seval, reduceCtorEq, ↓reduceIte, beq_dec, Int.toNat_natCast, IntKind.signed, IntKind.bits, hge, pc, Int.toNat_natCast, List.length_map, hkk]) | refine And.intro (fun hc => (?_ : AW _ _ _ _)) (fun hc => (?_ : AW _ _ _ _)) | simp (disch := omega) only [go_sem, seval, reduceCtorEq, ↓reduceIte, beq_dec, Int.toNat_natCast, IntKind.signed, IntKind.bits, hge, pc, Int.toNat_natCast, List.length_map, hkk] | (refine And.intro ?_ ?_; focus (first | (intros; omega) | (intros; simp_all; done))) | refine And.intro (?_ : CallAt _ _ _ _ _ _ _ _) ?_ | refine And.intro (?_ : CallAt _ _ _ _ _ _ _ _ ∧ _) ?_ | refine And.intro (?_ : AW _ _ _ _) ?_ | fail))
      refine ⟨AW_out 9 902 q.1 (by rfl) (by omega) ?_⟩
      simp (disch := omega) only [go_sem, seval, reduceCtorEq, ↓reduceIte, beq_dec, Int.toNat_natCast, IntKind.signed, IntKind.bits, t1]
      refine AW_cut (inM p k q q.1 (rN G) ((G.getD q.1 []).map nc ++ [[.I (q.2 : Int)]])) (inM p k q q.1 (rN G) ((G.getD q.1 []).map nc)) (r15a p k q _ _ (by omega) (by omega) (by rw [List.length_map]; omega)) ?_ ?_
      · unfold inM
        simp (disch := omega) only [go_sem, seval, reduceCtorEq, ↓reduceIte, beq_dec, Int.toNat_natCast, IntKind.signed, IntKind.bits]
      · unfold inM
        simp (disch := omega) only [go_sem, seval, reduceCtorEq, ↓reduceIte, beq_dec, Int.toNat_natCast, IntKind.signed, IntKind.bits]
        refine AW_inn 9 902 q.1 (by rfl) (by rfl) ?_
        simp (disch := omega) only [go_sem, seval, reduceCtorEq, ↓reduceIte, beq_dec, Int.toNat_natCast, IntKind.signed, IntKind.bits, s1]
        refine AW_out 9 902 q.2 (by rfl) (by omega) ?_
        simp (disch := omega) only [go_sem, seval, reduceCtorEq, ↓reduceIte, beq_dec, Int.toNat_natCast, IntKind.signed, IntKind.bits, t2]
        refine AW_cut (inM p k q q.2 (rN G1) ((G1.getD q.2 []).map nc ++ [[.I (q.1 : Int)]])) (inM p k q q.2 (rN G1) ((G1.getD q.2 []).map nc)) (r15b p k q _ _ (by omega) (by omega) (by rw [List.length_map]; omega)) ?_ ?_
        · unfold inM
          simp (disch := omega) only [go_sem, seval, reduceCtorEq, ↓reduceIte, beq_dec, Int.toNat_natCast, IntKind.signed, IntKind.bits]
        · unfold inM
          simp (disch := omega) only [go_sem, seval, reduceCtorEq, ↓reduceIte, beq_dec, Int.toNat_natCast, IntKind.signed, IntKind.bits]
          refine AW_inn 9 902 q.2 (by rfl) (by rfl) ?_
          simp (disch := omega) only [go_sem, seval, reduceCtorEq, ↓reduceIte, beq_dec, Int.toNat_natCast, IntKind.signed, IntKind.bits, s2]
          (repeat' (first | refine NextAt.mk (fun hc => ?_) (fun pre n v post hc hkey => ?_) | refine Sni.mk (fun hc => ?_) ?_ | refine Both.mk ?_ ?_ | refine AW_seq ?_ | refine AW_block ?_ | ((first | refine AW_reg ?_ | refine AW_cond ?_ | refine AW_skip ?_ | refine AW_exit ?_ | refine AW_ret ?_ | refine AW_regD (by kernel_rfl) ?_ | refine AW_regX (by kernel_rfl) ?_ | refine CallAtG.t (Eq.refl true) ?_ | refine CallAtG.f (Eq.refl false) ?_); try simp (disch := omega) only [go_sem, seval, reduceCtorEq, ↓reduceIte, beq_dec, Int.toNat_natCast, IntKind.signed, IntKind.bits]) | refine And.intro (fun hc => (?_ : AW _ _ _ _)) (fun hc => (?_ : AW _ _ _ _)) | simp (disch := omega) only [go_sem, seval, reduceCtorEq, ↓reduceIte, beq_dec, Int.toNat_natCast, IntKind.signed, IntKind.bits] | (refine And.intro ?_ ?_; focus (first | (intros; omega) | (intros; simp_all; done))) | refine And.intro (?_ : CallAt _ _ _ _ _ _ _ _) ?_ | refine And.intro (?_ : CallAt _ _ _ _ _ _ _ _ ∧ _) ?_ | refine And.intro (?_ : AW _ _ _ _) ?_ | fail))
          refine .mk (k + 1) (by omega) (by omega) ?_
          rw [hG']
          simp (disch := omega) only [go_sem, seval, reduceCtorEq, ↓reduceIte, beq_dec, Int.toNat_natCast, IntKind.signed, IntKind.bits, Int.natCast_add, Int.natCast_one]
    · obtain rfl : k = p.length := by omega
      rw [List.take_length]
      have hkk : ((p.length : Int) < (p.length : Int)) = False := eq_false (by omega)
      (repeat' (first | (with_reducible refine hold15_19 ?_; try simp (disch := omega) only [go_sem, seval, reduceCtorEq, ↓reduceIte, beq_dec, Int.toNat_natCast, IntKind.signed, IntKind.bits, List.length_map, hkk]) | refine NextAt.mk (fun hc => ?_) (fun pre n v post hc hkey => ?_) | refine Sni.mk (fun hc => ?_) ?_ | refine Both.mk ?_ ?_ | refine AW_seq ?_ | refine AW_block ?_ | ((first | refine AW_reg ?_ | refine AW_cond ?_ | refine AW_skip ?_ | refine AW_exit ?_ | refine AW_ret ?_ | refine AW_regD (by kernel_rfl) ?_ | refine AW_regX (by kernel_rfl) ?_ | refine CallAtG.t (Eq.refl true) ?_ | refine CallAtG.f (Eq.refl false) ?_); try simp (disch := omega) only [go_sem, seval, reduceCtorEq, ↓reduceIte, beq_dec, Int.toNat_natCast, IntKind.signed, IntKind.bits, List.length_map, hkk]) | refine And.intro (fun hc => (?_ : AW _ _ _ _)) (fun hc => (?_ : AW _ _ _ _)) | simp (disch := omega) only [go_sem, seval, reduceCtorEq, ↓reduceIte, beq_dec, Int.toNat_natCast, IntKind.signed, IntKind.bits, List.length_map, hkk] | (refine And.intro ?_ ?_; focus (first | (intros; omega) | (intros; simp_all; done))) | refine And.intro (?_ : CallAt _ _ _ _ _ _ _ _) ?_ | refine And.intro (?_ : CallAt _ _ _ _ _ _ _ _ ∧ _) ?_ | refine And.intro (?_ : AW _ _ _ _) ?_ | fail))
      refine ⟨AW_frzR 9 (by rfl) ?_⟩
      rw [rowsCD_rN]
      simp (disch := omega) only [go_sem, seval, reduceCtorEq, ↓reduceIte, beq_dec, Int.toNat_natCast, IntKind.signed, IntKind.bits, St.frzR]
      (repeat' (first | refine NextAt.mk (fun hc => ?_) (fun pre n v post hc hkey => ?_) | refine Sni.mk (fun hc => ?_) ?_ | refine Both.mk ?_ ?_ | refine AW_seq ?_ | refine AW_block ?_ | ((first | refine AW_reg ?_ | refine AW_cond ?_ | refine AW_skip ?_ | refine AW_exit ?_ | refine AW_ret ?_ | refine AW_regD (by kernel_rfl) ?_ | refine AW_regX (by kernel_rfl) ?_ | refine CallAtG.t (Eq.refl true) ?_ | refine CallAtG.f (Eq.refl false) ?_); try simp (disch := omega) only [go_sem, seval, reduceCtorEq, ↓reduceIte, beq_dec, Int.toNat_natCast, IntKind.signed, IntKind.bits]) | refine And.intro (fun hc => (?_ : AW _ _ _ _)) (fun hc => (?_ : AW _ _ _ _)) | simp (disch := omega) only [go_sem, seval, reduceCtorEq, ↓reduceIte, beq_dec, Int.toNat_natCast, IntKind.signed, IntKind.bits] | (refine And.intro ?_ ?_; focus (first | (intros; omega) | (intros; simp_all; done))) | refine And.intro (?_ : CallAt _ _ _ _ _ _ _ _) ?_ | refine And.intro (?_ : CallAt _ _ _ _ _ _ _ _ ∧ _) ?_ | refine And.intro (?_ : AW _ _ _ _) ?_ | fail))
end Go.Proofs.Ytggcpnnmmcnogaa

