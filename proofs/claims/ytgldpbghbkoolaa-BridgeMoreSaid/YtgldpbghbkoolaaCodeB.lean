/-
  Lemmas for the proof: no statement of its own.
-/
import Derived.Test.YtgldpbghbkoolaaProg
import Derived.Test.YtgldpbghbkoolaaAlD
import Derived.KernelRfl
set_option linter.unusedVariables false
set_option linter.unusedSimpArgs false
-- P p_15.txt
open Go Go.AL
namespace Go.Proofs.Ytgldpbghbkoolaa
/- coinage/coinagelaw15.awake -/
abbrev c9_1 : AC := .reg [⟨(some 0), .mv (.k (.B false)), none⟩] false
abbrev c9_2 : AC := .reg [⟨(some 6), .call 32 [], none⟩,
  ⟨(some 7), .call 18 [(.t 6)], none⟩,
  ⟨(some 5), .mv (.t 7), none⟩,
  ⟨(some 8), .ext (.t 5) 0, none⟩,
  ⟨(some 9), .ext (.t 5) 1, none⟩,
  ⟨(some 1), .mv (.t 8), none⟩,
  ⟨(some 2), .mv (.t 9), none⟩] false
abbrev c9_3 : AC := .reg [⟨(some 11), .call 32 [], none⟩,
  ⟨(some 12), .build [(.I 0), (.I 0)] [(1, 1, (.k (.I 1)))], none⟩,
  ⟨(some 13), .build [(.I 0), (.I 0)] [(1, 1, (.k (.I 2)))], none⟩,
  ⟨(some 14), .call 11 [(.t 11), (.t 12), (.t 13)], none⟩,
  ⟨(some 10), .mv (.t 14), none⟩,
  ⟨(some 15), .ext (.t 10) 0, none⟩,
  ⟨(some 16), .ext (.t 10) 1, none⟩,
  ⟨(some 3), .mv (.t 15), none⟩,
  ⟨(some 4), .mv (.t 16), none⟩] false
abbrev c9_4 : AC := .reg [⟨(some 17), .mv (.t 2), none⟩,
  ⟨(some 18), .bin .eql (.t 17) (.k (.I 0)), none⟩,
  ⟨(some 19), .mv (.t 18), none⟩,
  ⟨(some 20), .mv (.t 1), (some (19, true))⟩,
  ⟨(some 21), .bslice 3 1 [(.k (.I 5))], (some (19, true))⟩,
  ⟨(some 22), .call 16 [(.t 20), (.t 21)], (some (19, true))⟩,
  ⟨(some 23), .pick (.t 19) (.t 22) (.k (.B false)), none⟩,
  ⟨(some 24), .mv (.t 23), none⟩,
  ⟨(some 25), .mv (.t 4), (some (24, true))⟩,
  ⟨(some 26), .bin .eql (.t 25) (.k (.I 0)), (some (24, true))⟩,
  ⟨(some 27), .pick (.t 24) (.t 26) (.k (.B false)), none⟩,
  ⟨(some 28), .mv (.t 27), none⟩,
  ⟨(some 29), .mv (.t 3), (some (28, true))⟩,
  ⟨(some 30), .bin .eql (.t 29) (.k (.I 2)), (some (28, true))⟩,
  ⟨(some 31), .pick (.t 28) (.t 30) (.k (.B false)), none⟩,
  ⟨(some 0), .mv (.t 31), none⟩] false
abbrev c9_5 : AC := .seq c9_4 .ret
abbrev c9_6 : AC := .seq c9_3 c9_5
abbrev c9_7 : AC := .seq c9_2 c9_6
abbrev c9_8 : AC := .seq c9_1 c9_7
abbrev c9 : AC := c9_8
theorem code9 : fnCode Try.prog 9 = some (c9, [0], 32) := by kernel_rfl
/- coinage/coinagelaw15.few -/
abbrev c10_1 : AC := .reg [⟨(some 1), .box 25 (some 3) (.t 0), none⟩,
  ⟨(some 2), .mv (.k (.B false)), none⟩] false
abbrev c10_2 : AC := .reg [⟨(some 3), .fad 0 (.t 1), none⟩,
  ⟨(some 4), .ld none (.t 3), none⟩,
  ⟨(some 5), .len (.t 4), none⟩,
  ⟨(some 6), .bin .leq (.t 5) (.k (.I 35)), none⟩,
  ⟨(some 7), .mv (.t 6), none⟩,
  ⟨(some 8), .fad 1 (.t 1), (some (7, true))⟩,
  ⟨(some 9), .ld none (.t 8), (some (7, true))⟩,
  ⟨(some 10), .len (.t 9), (some (7, true))⟩,
  ⟨(some 11), .bin .leq (.t 10) (.k (.I 35)), (some (7, true))⟩,
  ⟨(some 12), .pick (.t 7) (.t 11) (.k (.B false)), none⟩,
  ⟨(some 13), .mv (.t 12), none⟩,
  ⟨(some 14), .fad 2 (.t 1), (some (13, true))⟩,
  ⟨(some 15), .ld none (.t 14), (some (13, true))⟩,
  ⟨(some 16), .len (.t 15), (some (13, true))⟩,
  ⟨(some 17), .bin .leq (.t 16) (.k (.I 16)), (some (13, true))⟩,
  ⟨(some 18), .pick (.t 13) (.t 17) (.k (.B false)), none⟩,
  ⟨(some 2), .mv (.t 18), none⟩] false
abbrev c10_3 : AC := .seq c10_2 .ret
abbrev c10_4 : AC := .seq c10_1 c10_3
abbrev c10 : AC := c10_4
theorem code10 : fnCode Try.prog 10 = some (c10, [2], 19) := by kernel_rfl
/- coinage/bridge.Flow -/
abbrev c11_1 : AC := .reg [⟨(some 3), .box 25 (some 3) (.t 0), none⟩,
  ⟨(some 4), .box 27 (some 2) (.t 1), none⟩,
  ⟨(some 5), .box 27 (some 2) (.t 2), none⟩,
  ⟨(some 6), .mv (.k (.I 0)), none⟩,
  ⟨(some 7), .mv (.k (.I 0)), none⟩] false
abbrev c11_2 : AC := .reg [⟨(some 12), .ld (some 3) (.t 3), none⟩,
  ⟨(some 13), .call 20 [(.t 12)], none⟩,
  ⟨(some 14), .not (.t 13), none⟩] false
abbrev c11_3 : AC := .reg [⟨(some 6), .mv (.k (.I 0)), none⟩,
  ⟨(some 7), .mv (.k (.I 1)), none⟩] false
abbrev c11_4 : AC := .seq c11_3 .ret
abbrev c11_5 : AC := .cond (.t 14) c11_4 .skip
abbrev c11_6 : AC := .seq c11_2 c11_5
abbrev c11_7 : AC := .reg [⟨(some 16), .ld (some 3) (.t 3), none⟩,
  ⟨(some 17), .ld (some 2) (.t 4), none⟩,
  ⟨(some 18), .ld (some 2) (.t 5), none⟩,
  ⟨(some 19), .call 33 [(.t 16), (.t 17), (.t 18)], none⟩,
  ⟨(some 15), .mv (.t 19), none⟩,
  ⟨(some 20), .ext (.t 15) 0, none⟩,
  ⟨(some 21), .ext (.t 15) 1, none⟩,
  ⟨(some 22), .ext (.t 15) 2, none⟩,
  ⟨(some 8), .mv (.t 20), none⟩,
  ⟨(some 9), .mv (.t 21), none⟩,
  ⟨(some 10), .mv (.t 22), none⟩] false
abbrev c11_8 : AC := .reg [⟨(some 23), .mv (.t 10), none⟩,
  ⟨(some 24), .not (.t 23), none⟩] false
abbrev c11_9 : AC := .reg [⟨(some 6), .mv (.k (.I 0)), none⟩,
  ⟨(some 7), .mv (.k (.I 7)), none⟩] false
abbrev c11_10 : AC := .seq c11_9 .ret
abbrev c11_11 : AC := .cond (.t 24) c11_10 .skip
abbrev c11_12 : AC := .seq c11_8 c11_11
abbrev c11_13 : AC := .reg [⟨(some 25), .ld (some 3) (.t 3), none⟩,
  ⟨(some 26), .call 34 [(.t 25)], none⟩,
  ⟨(some 11), .alloc 62 [(.I 0), (.c .nil), (.c .nil)], none⟩,
  ⟨none, .st (some 3) (.t 11) (.t 26), none⟩] false
abbrev c11_14 : AC := .regX (.first ⟨(some 28), .mv (.t 8), none⟩
  (.first ⟨(some 29), .mv (.t 9), none⟩
  (.first ⟨(some 30), .fad 1 (.t 11), none⟩
  (.fork ⟨(some 27), .ld (some 3) (.t 11), none⟩
  (.fork ⟨(some 31), .ld none (.t 30), none⟩
  (.first ⟨(some 32), .len (.t 31), none⟩
  (.fork ⟨(some 33), .mks 4 1 1 [(.sc (.bool false))] (.t 32) (.t 32), none⟩
  (.fork ⟨(some 34), .call 35 [(.t 27), (.t 28), (.t 29), (.t 33)], none⟩
  (.first ⟨(some 6), .mv (.t 34), none⟩
  (.first ⟨(some 7), .mv (.k (.I 0)), none⟩
  .done))
  .nope)
  .nope))
  .nope)
  (.fork ⟨(some 31), .ld none (.t 30), none⟩
  (.first ⟨(some 32), .len (.t 31), none⟩
  (.fork ⟨(some 27), .ld (some 3) (.t 11), none⟩
  (.fork ⟨(some 33), .mks 4 1 1 [(.sc (.bool false))] (.t 32) (.t 32), none⟩
  (.fork ⟨(some 34), .call 35 [(.t 27), (.t 28), (.t 29), (.t 33)], none⟩
  (.first ⟨(some 6), .mv (.t 34), none⟩
  (.first ⟨(some 7), .mv (.k (.I 0)), none⟩
  .done))
  .nope)
  .nope)
  (.fork ⟨(some 33), .mks 4 1 1 [(.sc (.bool false))] (.t 32) (.t 32), none⟩
  (.fork ⟨(some 27), .ld (some 3) (.t 11), none⟩
  (.fork ⟨(some 34), .call 35 [(.t 27), (.t 28), (.t 29), (.t 33)], none⟩
  (.first ⟨(some 6), .mv (.t 34), none⟩
  (.first ⟨(some 7), .mv (.k (.I 0)), none⟩
  .done))
  .nope)
  .nope)
  .nope)))
  .nope)))))
abbrev c11_15 : AC := .seq c11_14 .ret
abbrev c11_16 : AC := .seq c11_13 c11_15
abbrev c11_17 : AC := .seq c11_12 c11_16
abbrev c11_18 : AC := .seq c11_7 c11_17
abbrev c11_19 : AC := .seq c11_6 c11_18
abbrev c11_20 : AC := .seq c11_1 c11_19
abbrev c11 : AC := c11_20
theorem code11 : fnCode Try.prog 11 = some (c11, [6, 7], 35) := by kernel_rfl
/- coinage/bridge.Robust -/
/- coinage/bridge.Cut -/
/- coinage/coinageref15.Flow -/
/- coinage/coinageref15.Cut -/
/- coinage/coinageref15.Robust -/
/- coinage/bridge.Bridges -/
abbrev c18_1 : AC := .reg [⟨(some 1), .box 25 (some 3) (.t 0), none⟩,
  ⟨(some 2), .mv (.k (.c .nil)), none⟩,
  ⟨(some 3), .mv (.k (.I 0)), none⟩] false
abbrev c18_2 : AC := .reg [⟨(some 8), .ld (some 3) (.t 1), none⟩,
  ⟨(some 9), .call 20 [(.t 8)], none⟩,
  ⟨(some 10), .not (.t 9), none⟩] false
abbrev c18_3 : AC := .reg [⟨(some 2), .mv (.k (.c .nil)), none⟩,
  ⟨(some 3), .mv (.k (.I 1)), none⟩] false
abbrev c18_4 : AC := .seq c18_3 .ret
abbrev c18_5 : AC := .cond (.t 10) c18_4 .skip
abbrev c18_6 : AC := .seq c18_2 c18_5
abbrev c18_7 : AC := .reg [⟨(some 11), .ld (some 3) (.t 1), none⟩,
  ⟨(some 12), .call 34 [(.t 11)], none⟩,
  ⟨(some 4), .alloc 62 [(.I 0), (.c .nil), (.c .nil)], none⟩,
  ⟨none, .st (some 3) (.t 4) (.t 12), none⟩] false
abbrev c18_8 : AC := .reg [⟨(some 5), .mv (.k (.c .nil)), none⟩] false
abbrev c18_9 : AC := .reg [⟨(some 13), .ld (some 3) (.t 4), none⟩,
  ⟨(some 14), .call 39 [(.t 13)], none⟩,
  ⟨(some 15), .len (.t 14), none⟩,
  ⟨(some 16), .mv (.k (.I 0)), none⟩] false
abbrev c18_10 : AC := .reg [⟨(some 17), .bin .lss (.t 16) (.t 15), none⟩] false
abbrev c18_11 : AC := .cond (.t 17) .skip (.exit 0)
abbrev c18_12 : AC := .reg [⟨(some 18), .mv (.t 16), none⟩,
  ⟨(some 19), .iad 1 (.t 14) (.t 16), none⟩,
  ⟨(some 20), .ld none (.t 19), none⟩,
  ⟨(some 6), .mv (.t 18), none⟩,
  ⟨(some 7), .mv (.t 20), none⟩] false
abbrev c18_13 : AC := .reg [⟨(some 21), .mv (.t 7), none⟩] false
abbrev c18_14 : AC := .reg [⟨(some 22), .mv (.t 5), none⟩,
  ⟨(some 23), .fad 1 (.t 4), none⟩,
  ⟨(some 24), .ld none (.t 23), none⟩,
  ⟨(some 25), .mv (.t 6), none⟩,
  ⟨(some 26), .iad 1 (.t 24) (.t 25), none⟩,
  ⟨(some 27), .ld none (.t 26), none⟩,
  ⟨(some 28), .bslice 3 1 [(.t 27)], none⟩,
  ⟨(some 29), .app 3 1 8 (.t 22) (.t 28), none⟩,
  ⟨(some 5), .mv (.t 29), none⟩] false
abbrev c18_15 : AC := .cond (.t 21) c18_14 .skip
abbrev c18_16 : AC := .seq c18_13 c18_15
abbrev c18_17 : AC := .seq c18_12 c18_16
abbrev c18_18 : AC := .block 1 c18_17
abbrev c18_19 : AC := .reg [⟨(some 30), .bin .add (.t 16) (.k (.I 1)), none⟩,
  ⟨(some 16), .mv (.t 30), none⟩] false
abbrev c18_20 : AC := .seq c18_18 c18_19
abbrev c18_21 : AC := .seq c18_11 c18_20
abbrev c18_22 : AC := .seq c18_10 c18_21
abbrev c18_23 : AC := .loop c18_22
abbrev c18_24 : AC := .block 0 c18_23
abbrev c18_25 : AC := .seq c18_9 c18_24
abbrev c18_26 : AC := .reg [⟨(some 31), .mv (.t 5), none⟩,
  ⟨(some 2), .mv (.t 31), none⟩,
  ⟨(some 3), .mv (.k (.I 0)), none⟩] false
abbrev c18_27 : AC := .seq c18_26 .ret
abbrev c18_28 : AC := .seq c18_25 c18_27
abbrev c18_29 : AC := .seq c18_8 c18_28
abbrev c18_30 : AC := .seq c18_7 c18_29
abbrev c18_31 : AC := .seq c18_6 c18_30
abbrev c18_32 : AC := .seq c18_1 c18_31
abbrev c18 : AC := c18_32
theorem code18 : fnCode Try.prog 18 = some (c18, [2, 3], 32) := by kernel_rfl
/- coinage/coinagelaw15.ring -/
abbrev c32_1 : AC := .reg [⟨(some 0), .alloc 25 [(.c .nil), (.c .nil), (.c .nil)], none⟩] false
abbrev c32_2 : AC := .reg [⟨(some 1), .bslice 3 1 [(.k (.I 1)), (.k (.I 2))], none⟩,
  ⟨(some 2), .bslice 3 1 [(.k (.I 1)), (.k (.I 2)), (.k (.I 3))], none⟩,
  ⟨(some 3), .build [(.I 0), (.I 0), (.I 0)] [(0, 1, (.k (.I 1))), (1, 1, (.k (.I 1))), (2, 1, (.k (.I 1)))], none⟩,
  ⟨(some 4), .build [(.I 0), (.I 0), (.I 0)] [(0, 1, (.k (.I 2))), (1, 1, (.k (.I 2))), (2, 1, (.k (.I 1)))], none⟩,
  ⟨(some 5), .build [(.I 0), (.I 0), (.I 0)] [(0, 1, (.k (.I 3))), (1, 1, (.k (.I 1))), (2, 1, (.k (.I 2)))], none⟩,
  ⟨(some 6), .build [(.I 0), (.I 0), (.I 0)] [(0, 1, (.k (.I 4))), (1, 1, (.k (.I 2))), (2, 1, (.k (.I 2)))], none⟩,
  ⟨(some 7), .build [(.I 0), (.I 0), (.I 0)] [(0, 1, (.k (.I 5))), (1, 1, (.k (.I 2))), (2, 1, (.k (.I 3)))], none⟩,
  ⟨(some 8), .bslice 44 3 [(.t 3), (.t 4), (.t 5), (.t 6), (.t 7)], none⟩,
  ⟨(some 9), .build [(.c .nil), (.c .nil), (.c .nil)] [(0, 1, (.t 1)), (1, 1, (.t 2)), (2, 1, (.t 8))], none⟩,
  ⟨none, .st (some 3) (.t 0) (.t 9), none⟩] false
abbrev c32_3 : AC := .seq c32_2 .ret
abbrev c32_4 : AC := .seq c32_1 c32_3
abbrev c32 : AC := c32_4
theorem code32 : fnCode Try.prog 32 = some (c32, [5000000], 10) := by kernel_rfl
/- coinage/bridge.vertices -/
abbrev c33_1 : AC := .reg [⟨(some 3), .box 25 (some 3) (.t 0), none⟩,
  ⟨(some 4), .box 27 (some 2) (.t 1), none⟩,
  ⟨(some 5), .box 27 (some 2) (.t 2), none⟩,
  ⟨(some 6), .mv (.k (.I 0)), none⟩,
  ⟨(some 7), .mv (.k (.I 0)), none⟩,
  ⟨(some 8), .mv (.k (.B false)), none⟩] false
abbrev c33_2 : AC := .reg [⟨(some 14), .ld (some 3) (.t 3), none⟩,
  ⟨(some 15), .call 48 [(.t 14)], none⟩,
  ⟨(some 13), .mv (.t 15), none⟩,
  ⟨(some 16), .ext (.t 13) 0, none⟩,
  ⟨(some 17), .ext (.t 13) 1, none⟩,
  ⟨(some 9), .mv (.t 16), none⟩,
  ⟨(some 10), .mv (.t 17), none⟩] false
abbrev c33_3 : AC := .regD [(⟨(some 18), .mv (.t 9), none⟩, [9]),
  (⟨(some 19), .ld (some 2) (.t 4), none⟩, [4]),
  (⟨(some 20), .call 56 [(.t 18), (.t 19)], none⟩, [18, 19]),
  (⟨(some 21), .mv (.t 9), none⟩, [9]),
  (⟨(some 22), .ld (some 2) (.t 5), none⟩, [5]),
  (⟨(some 23), .call 56 [(.t 21), (.t 22)], none⟩, [21, 22]),
  (⟨(some 11), .mv (.t 20), none⟩, [20]),
  (⟨(some 12), .mv (.t 23), none⟩, [23])]
abbrev c33_4 : AC := .reg [⟨(some 24), .mv (.t 11), none⟩,
  ⟨(some 25), .mv (.t 12), none⟩,
  ⟨(some 26), .mv (.t 11), none⟩,
  ⟨(some 27), .bin .geq (.t 26) (.k (.I 0)), none⟩,
  ⟨(some 28), .mv (.t 27), none⟩,
  ⟨(some 29), .mv (.t 12), (some (28, true))⟩,
  ⟨(some 30), .bin .geq (.t 29) (.k (.I 0)), (some (28, true))⟩,
  ⟨(some 31), .pick (.t 28) (.t 30) (.k (.B false)), none⟩,
  ⟨(some 32), .mv (.t 31), none⟩,
  ⟨(some 33), .mv (.t 11), (some (32, true))⟩,
  ⟨(some 34), .mv (.t 12), (some (32, true))⟩,
  ⟨(some 35), .bin .neq (.t 33) (.t 34), (some (32, true))⟩,
  ⟨(some 36), .pick (.t 32) (.t 35) (.k (.B false)), none⟩,
  ⟨(some 6), .mv (.t 24), none⟩,
  ⟨(some 7), .mv (.t 25), none⟩,
  ⟨(some 8), .mv (.t 36), none⟩] false
abbrev c33_5 : AC := .seq c33_4 .ret
abbrev c33_6 : AC := .seq c33_3 c33_5
abbrev c33_7 : AC := .seq c33_2 c33_6
abbrev c33_8 : AC := .seq c33_1 c33_7
abbrev c33 : AC := c33_8
theorem code33 : fnCode Try.prog 33 = some (c33, [6, 7, 8], 37) := by kernel_rfl
/- coinage/bridge.of -/
abbrev c34_1 : AC := .reg [⟨(some 1), .box 25 (some 3) (.t 0), none⟩,
  ⟨(some 2), .alloc 62 [(.I 0), (.c .nil), (.c .nil)], none⟩] false
abbrev c34_2 : AC := .reg [⟨(some 10), .fad 0 (.t 1), none⟩,
  ⟨(some 11), .ld none (.t 10), none⟩,
  ⟨(some 12), .len (.t 11), none⟩,
  ⟨(some 13), .fad 1 (.t 1), none⟩,
  ⟨(some 14), .ld none (.t 13), none⟩,
  ⟨(some 15), .len (.t 14), none⟩,
  ⟨(some 16), .bin .add (.t 12) (.t 15), none⟩,
  ⟨(some 17), .build [(.I 0), (.c .nil), (.c .nil)] [(0, 1, (.t 16))], none⟩,
  ⟨(some 3), .alloc 62 [(.I 0), (.c .nil), (.c .nil)], none⟩,
  ⟨none, .st (some 3) (.t 3) (.t 17), none⟩] false
abbrev c34_3 : AC := .reg [⟨(some 18), .fad 2 (.t 1), none⟩,
  ⟨(some 19), .ld none (.t 18), none⟩,
  ⟨(some 20), .len (.t 19), none⟩,
  ⟨(some 21), .mv (.k (.I 0)), none⟩] false
abbrev c34_4 : AC := .reg [⟨(some 22), .bin .lss (.t 21) (.t 20), none⟩] false
abbrev c34_5 : AC := .cond (.t 22) .skip (.exit 0)
abbrev c34_6 : AC := .reg [⟨(some 23), .iad 3 (.t 19) (.t 21), none⟩,
  ⟨(some 24), .ld (some 3) (.t 23), none⟩,
  ⟨(some 5), .alloc 44 [(.I 0), (.I 0), (.I 0)], none⟩,
  ⟨none, .st (some 3) (.t 5) (.t 24), none⟩] false
abbrev c34_7 : AC := .reg [⟨(some 26), .fad 0 (.t 1), none⟩,
  ⟨(some 27), .ld none (.t 26), none⟩,
  ⟨(some 28), .fad 1 (.t 5), none⟩,
  ⟨(some 29), .ld none (.t 28), none⟩,
  ⟨(some 30), .call 57 [(.t 27), (.t 29)], none⟩,
  ⟨(some 25), .mv (.t 30), none⟩,
  ⟨(some 31), .ext (.t 25) 0, none⟩,
  ⟨(some 32), .ext (.t 25) 1, none⟩,
  ⟨(some 6), .mv (.t 31), none⟩,
  ⟨(some 7), .mv (.t 32), none⟩] false
abbrev c34_8 : AC := .reg [⟨(some 34), .fad 1 (.t 1), none⟩,
  ⟨(some 35), .ld none (.t 34), none⟩,
  ⟨(some 36), .fad 2 (.t 5), none⟩,
  ⟨(some 37), .ld none (.t 36), none⟩,
  ⟨(some 38), .call 57 [(.t 35), (.t 37)], none⟩,
  ⟨(some 33), .mv (.t 38), none⟩,
  ⟨(some 39), .ext (.t 33) 0, none⟩,
  ⟨(some 40), .ext (.t 33) 1, none⟩,
  ⟨(some 8), .mv (.t 39), none⟩,
  ⟨(some 9), .mv (.t 40), none⟩] false
abbrev c34_9 : AC := .reg [⟨(some 41), .fad 1 (.t 3), none⟩,
  ⟨(some 42), .ld none (.t 41), none⟩,
  ⟨(some 43), .fad 0 (.t 5), none⟩,
  ⟨(some 44), .ld none (.t 43), none⟩,
  ⟨(some 45), .bslice 3 1 [(.t 44)], none⟩,
  ⟨(some 46), .app 3 1 8 (.t 42) (.t 45), none⟩,
  ⟨(some 47), .fad 1 (.t 3), none⟩,
  ⟨none, .st none (.t 47) (.t 46), none⟩] false
abbrev c34_10 : AC := .reg [⟨(some 48), .fad 2 (.t 3), none⟩,
  ⟨(some 49), .ld none (.t 48), none⟩,
  ⟨(some 50), .mv (.t 6), none⟩,
  ⟨(some 51), .fad 0 (.t 1), none⟩,
  ⟨(some 52), .ld none (.t 51), none⟩,
  ⟨(some 53), .len (.t 52), none⟩,
  ⟨(some 54), .mv (.t 8), none⟩,
  ⟨(some 55), .bin .add (.t 53) (.t 54), none⟩,
  ⟨(some 56), .build [(.I 0), (.I 0)] [(0, 1, (.t 50)), (1, 1, (.t 55))], none⟩,
  ⟨(some 57), .bslice 74 2 [(.t 56)], none⟩,
  ⟨(some 58), .app 74 2 16 (.t 49) (.t 57), none⟩,
  ⟨(some 59), .fad 2 (.t 3), none⟩,
  ⟨none, .st none (.t 59) (.t 58), none⟩] false
abbrev c34_11 : AC := .seq c34_9 c34_10
abbrev c34_12 : AC := .seq c34_8 c34_11
abbrev c34_13 : AC := .seq c34_7 c34_12
abbrev c34_14 : AC := .seq c34_6 c34_13
abbrev c34_15 : AC := .block 1 c34_14
abbrev c34_16 : AC := .reg [⟨(some 60), .bin .add (.t 21) (.k (.I 1)), none⟩,
  ⟨(some 21), .mv (.t 60), none⟩] false
abbrev c34_17 : AC := .seq c34_15 c34_16
abbrev c34_18 : AC := .seq c34_5 c34_17
abbrev c34_19 : AC := .seq c34_4 c34_18
abbrev c34_20 : AC := .loop c34_19
abbrev c34_21 : AC := .block 0 c34_20
abbrev c34_22 : AC := .seq c34_3 c34_21
abbrev c34_23 : AC := .reg [⟨(some 61), .ld (some 3) (.t 3), none⟩,
  ⟨none, .st (some 3) (.t 2) (.t 61), none⟩] false
abbrev c34_24 : AC := .seq c34_23 .ret
abbrev c34_25 : AC := .seq c34_22 c34_24
abbrev c34_26 : AC := .seq c34_2 c34_25
abbrev c34_27 : AC := .seq c34_1 c34_26
abbrev c34 : AC := c34_27
theorem code34 : fnCode Try.prog 34 = some (c34, [5000002], 62) := by kernel_rfl
/- (coinage/bridge.net).paths -/
abbrev c35_1 : AC := .reg [⟨(some 4), .box 62 (some 3) (.t 0), none⟩,
  ⟨(some 8), .mv (.k (.I 0)), none⟩] false
abbrev c35_2 : AC := .reg [⟨(some 11), .fad 1 (.t 4), none⟩,
  ⟨(some 12), .ld none (.t 11), none⟩,
  ⟨(some 13), .len (.t 12), none⟩,
  ⟨(some 14), .mks 3 1 8 [(.sc (.int .i64 0))] (.t 13) (.t 13), none⟩,
  ⟨(some 9), .mv (.t 14), none⟩] false
abbrev c35_3 : AC := .reg [⟨(some 10), .mv (.k (.I 0)), none⟩] false
abbrev c35_4 : AC := .reg [⟨(some 15), .ld (some 3) (.t 4), none⟩,
  ⟨(some 16), .mv (.t 1), none⟩,
  ⟨(some 17), .mv (.t 2), none⟩,
  ⟨(some 18), .mv (.t 9), none⟩,
  ⟨(some 19), .mv (.t 3), none⟩,
  ⟨(some 20), .call 58 [(.t 15), (.t 16), (.t 17), (.t 18), (.t 19)], none⟩] false
abbrev c35_5 : AC := .cond (.t 20) .skip (.exit 0)
abbrev c35_6 : AC := .seq c35_4 c35_5
abbrev c35_7 : AC := .reg [⟨(some 21), .mv (.t 10), none⟩,
  ⟨(some 22), .bin .add (.t 21) (.k (.I 1)), none⟩,
  ⟨(some 10), .mv (.t 22), none⟩] false
abbrev c35_8 : AC := .block 1 c35_7
abbrev c35_9 : AC := .seq c35_6 c35_8
abbrev c35_10 : AC := .loop c35_9
abbrev c35_11 : AC := .block 0 c35_10
abbrev c35_12 : AC := .reg [⟨(some 23), .mv (.t 10), none⟩,
  ⟨(some 8), .mv (.t 23), none⟩] false
abbrev c35_13 : AC := .seq c35_12 .ret
abbrev c35_14 : AC := .seq c35_11 c35_13
abbrev c35_15 : AC := .seq c35_3 c35_14
abbrev c35_16 : AC := .seq c35_2 c35_15
abbrev c35_17 : AC := .seq c35_1 c35_16
abbrev c35 : AC := c35_17
theorem code35 : fnCode Try.prog 35 = some (c35, [8], 24) := by kernel_rfl
/- coinage/coinageref15.flow -/
/- (coinage/bridge.net).bridges -/
abbrev c39_1 : AC := .reg [⟨(some 1), .box 62 (some 3) (.t 0), none⟩,
  ⟨(some 2), .mv (.k (.c .nil)), none⟩] false
abbrev c39_2 : AC := .reg [⟨(some 10), .ld (some 3) (.t 1), none⟩,
  ⟨(some 11), .call 40 [(.t 10), (.k (.fn 49 []))], none⟩,
  ⟨(some 9), .mv (.t 11), none⟩,
  ⟨(some 12), .ext (.t 9) 0, none⟩,
  ⟨(some 13), .ext (.t 9) 1, none⟩,
  ⟨(some 3), .mv (.t 12), none⟩,
  ⟨(some 4), .mv (.t 13), none⟩] false
abbrev c39_3 : AC := .reg [⟨(some 14), .fad 1 (.t 1), none⟩,
  ⟨(some 15), .ld none (.t 14), none⟩,
  ⟨(some 16), .len (.t 15), none⟩,
  ⟨(some 17), .mks 4 1 1 [(.sc (.bool false))] (.t 16) (.t 16), none⟩,
  ⟨(some 5), .mv (.t 17), none⟩] false
abbrev c39_4 : AC := .reg [⟨(some 18), .mv (.t 5), none⟩,
  ⟨(some 19), .len (.t 18), none⟩,
  ⟨(some 20), .mv (.k (.I 0)), none⟩] false
abbrev c39_5 : AC := .reg [⟨(some 21), .bin .lss (.t 20) (.t 19), none⟩] false
abbrev c39_6 : AC := .cond (.t 21) .skip (.exit 0)
abbrev c39_7 : AC := .reg [⟨(some 22), .mv (.t 20), none⟩,
  ⟨(some 6), .alloc 3 [(.I 0)], none⟩,
  ⟨none, .st none (.t 6) (.t 22), none⟩] false
abbrev c39_8 : AC := .reg [⟨(some 24), .ld (some 3) (.t 1), none⟩,
  ⟨(some 25), .mkfn 60 [(.t 6)], none⟩,
  ⟨(some 26), .call 40 [(.t 24), (.t 25)], none⟩,
  ⟨(some 23), .mv (.t 26), none⟩,
  ⟨(some 27), .ext (.t 23) 0, none⟩,
  ⟨(some 28), .ext (.t 23) 1, none⟩,
  ⟨(some 7), .mv (.t 27), none⟩,
  ⟨(some 8), .mv (.t 28), none⟩] false
abbrev c39_9 : AC := .reg [⟨(some 29), .mv (.t 5), none⟩,
  ⟨(some 30), .ld none (.t 6), none⟩,
  ⟨(some 31), .mv (.t 8), none⟩,
  ⟨(some 32), .mv (.t 4), none⟩,
  ⟨(some 33), .bin .gtr (.t 31) (.t 32), none⟩,
  ⟨(some 34), .iad 1 (.t 29) (.t 30), none⟩,
  ⟨none, .st none (.t 34) (.t 33), none⟩] false
abbrev c39_10 : AC := .seq c39_8 c39_9
abbrev c39_11 : AC := .seq c39_7 c39_10
abbrev c39_12 : AC := .block 1 c39_11
abbrev c39_13 : AC := .reg [⟨(some 35), .bin .add (.t 20) (.k (.I 1)), none⟩,
  ⟨(some 20), .mv (.t 35), none⟩] false
abbrev c39_14 : AC := .seq c39_12 c39_13
abbrev c39_15 : AC := .seq c39_6 c39_14
abbrev c39_16 : AC := .seq c39_5 c39_15
abbrev c39_17 : AC := .loop c39_16
abbrev c39_18 : AC := .block 0 c39_17
abbrev c39_19 : AC := .seq c39_4 c39_18
abbrev c39_20 : AC := .reg [⟨(some 36), .mv (.t 5), none⟩,
  ⟨(some 2), .mv (.t 36), none⟩] false
abbrev c39_21 : AC := .seq c39_20 .ret
abbrev c39_22 : AC := .seq c39_19 c39_21
abbrev c39_23 : AC := .seq c39_3 c39_22
abbrev c39_24 : AC := .seq c39_2 c39_23
abbrev c39_25 : AC := .seq c39_1 c39_24
abbrev c39 : AC := c39_25
theorem code39 : fnCode Try.prog 39 = some (c39, [2], 37) := by kernel_rfl
/- (coinage/bridge.net).parts -/
abbrev c40_1 : AC := .reg [⟨(some 2), .box 62 (some 3) (.t 0), none⟩,
  ⟨(some 4), .mv (.k (.c .nil)), none⟩,
  ⟨(some 5), .mv (.k (.I 0)), none⟩] false
abbrev c40_2 : AC := .reg [⟨(some 14), .fad 0 (.t 2), none⟩,
  ⟨(some 15), .ld none (.t 14), none⟩,
  ⟨(some 16), .mks 3 1 8 [(.sc (.int .i64 0))] (.t 15) (.t 15), none⟩,
  ⟨(some 6), .mv (.t 16), none⟩] false
abbrev c40_3 : AC := .reg [⟨(some 17), .mv (.t 6), none⟩,
  ⟨(some 18), .len (.t 17), none⟩,
  ⟨(some 19), .mv (.k (.I 0)), none⟩] false
abbrev c40_4 : AC := .reg [⟨(some 20), .bin .lss (.t 19) (.t 18), none⟩] false
abbrev c40_5 : AC := .cond (.t 20) .skip (.exit 0)
abbrev c40_6 : AC := .reg [⟨(some 21), .mv (.t 19), none⟩,
  ⟨(some 7), .mv (.t 21), none⟩] false
abbrev c40_7 : AC := .reg [⟨(some 22), .mv (.t 6), none⟩,
  ⟨(some 23), .mv (.t 7), none⟩,
  ⟨(some 24), .mv (.t 7), none⟩,
  ⟨(some 25), .iad 1 (.t 22) (.t 23), none⟩,
  ⟨none, .st none (.t 25) (.t 24), none⟩] false
abbrev c40_8 : AC := .seq c40_6 c40_7
abbrev c40_9 : AC := .block 1 c40_8
abbrev c40_10 : AC := .reg [⟨(some 26), .bin .add (.t 19) (.k (.I 1)), none⟩,
  ⟨(some 19), .mv (.t 26), none⟩] false
abbrev c40_11 : AC := .seq c40_9 c40_10
abbrev c40_12 : AC := .seq c40_5 c40_11
abbrev c40_13 : AC := .seq c40_4 c40_12
abbrev c40_14 : AC := .loop c40_13
abbrev c40_15 : AC := .block 0 c40_14
abbrev c40_16 : AC := .seq c40_3 c40_15
abbrev c40_17 : AC := .reg [⟨(some 27), .fad 0 (.t 2), none⟩,
  ⟨(some 28), .ld none (.t 27), none⟩,
  ⟨(some 8), .mv (.t 28), none⟩] false
abbrev c40_18 : AC := .reg [⟨(some 29), .fad 2 (.t 2), none⟩,
  ⟨(some 30), .ld none (.t 29), none⟩,
  ⟨(some 31), .len (.t 30), none⟩,
  ⟨(some 32), .mv (.k (.I 0)), none⟩] false
abbrev c40_19 : AC := .reg [⟨(some 33), .bin .lss (.t 32) (.t 31), none⟩] false
abbrev c40_20 : AC := .cond (.t 33) .skip (.exit 2)
abbrev c40_21 : AC := .reg [⟨(some 34), .mv (.t 32), none⟩,
  ⟨(some 35), .iad 2 (.t 30) (.t 32), none⟩,
  ⟨(some 36), .ld (some 2) (.t 35), none⟩,
  ⟨(some 10), .alloc 74 [(.I 0), (.I 0)], none⟩,
  ⟨(some 9), .mv (.t 34), none⟩,
  ⟨none, .st (some 2) (.t 10) (.t 36), none⟩] false
abbrev c40_22 : AC := .regD [(⟨(some 37), .mv (.t 6), none⟩, [6]),
  (⟨(some 38), .iadA 2 1 (.t 10) (.k (.I 0)), none⟩, [10]),
  (⟨(some 39), .ld none (.t 38), none⟩, [38]),
  (⟨(some 40), .iad 1 (.t 37) (.t 39), none⟩, [37, 39]),
  (⟨(some 41), .ld none (.t 40), none⟩, [40]),
  (⟨(some 42), .mv (.t 6), none⟩, [6]),
  (⟨(some 43), .iadA 2 1 (.t 10) (.k (.I 1)), none⟩, [10]),
  (⟨(some 44), .ld none (.t 43), none⟩, [43]),
  (⟨(some 45), .iad 1 (.t 42) (.t 44), none⟩, [42, 44]),
  (⟨(some 46), .ld none (.t 45), none⟩, [45]),
  (⟨(some 11), .mv (.t 41), none⟩, [41]),
  (⟨(some 12), .mv (.t 46), none⟩, [46])]
abbrev c40_23 : AC := .reg [⟨(some 47), .mv (.t 11), none⟩,
  ⟨(some 48), .mv (.t 12), none⟩,
  ⟨(some 49), .bin .eql (.t 47) (.t 48), none⟩,
  ⟨(some 50), .mv (.t 49), none⟩,
  ⟨(some 51), .mv (.t 1), (some (50, false))⟩,
  ⟨(some 52), .mv (.t 9), (some (50, false))⟩,
  ⟨(some 53), .callv (.t 51) [(.t 52)], (some (50, false))⟩,
  ⟨(some 54), .not (.t 53), (some (50, false))⟩,
  ⟨(some 55), .pick (.t 50) (.k (.B true)) (.t 54), none⟩] false
abbrev c40_24 : AC := .cond (.t 55) (.exit 3) .skip
abbrev c40_25 : AC := .seq c40_23 c40_24
abbrev c40_26 : AC := .reg [⟨(some 56), .mv (.t 8), none⟩,
  ⟨(some 57), .bin .sub (.t 56) (.k (.I 1)), none⟩,
  ⟨(some 8), .mv (.t 57), none⟩] false
abbrev c40_27 : AC := .reg [⟨(some 58), .mv (.t 6), none⟩,
  ⟨(some 59), .len (.t 58), none⟩,
  ⟨(some 60), .mv (.k (.I 0)), none⟩] false
abbrev c40_28 : AC := .reg [⟨(some 61), .bin .lss (.t 60) (.t 59), none⟩] false
abbrev c40_29 : AC := .cond (.t 61) .skip (.exit 4)
abbrev c40_30 : AC := .reg [⟨(some 62), .mv (.t 60), none⟩,
  ⟨(some 13), .mv (.t 62), none⟩] false
abbrev c40_31 : AC := .reg [⟨(some 63), .mv (.t 6), none⟩,
  ⟨(some 64), .mv (.t 13), none⟩,
  ⟨(some 65), .iad 1 (.t 63) (.t 64), none⟩,
  ⟨(some 66), .ld none (.t 65), none⟩,
  ⟨(some 67), .mv (.t 12), none⟩,
  ⟨(some 68), .bin .eql (.t 66) (.t 67), none⟩] false
abbrev c40_32 : AC := .reg [⟨(some 69), .mv (.t 6), none⟩,
  ⟨(some 70), .mv (.t 13), none⟩,
  ⟨(some 71), .mv (.t 11), none⟩,
  ⟨(some 72), .iad 1 (.t 69) (.t 70), none⟩,
  ⟨none, .st none (.t 72) (.t 71), none⟩] false
abbrev c40_33 : AC := .cond (.t 68) c40_32 .skip
abbrev c40_34 : AC := .seq c40_31 c40_33
abbrev c40_35 : AC := .seq c40_30 c40_34
abbrev c40_36 : AC := .block 5 c40_35
abbrev c40_37 : AC := .reg [⟨(some 73), .bin .add (.t 60) (.k (.I 1)), none⟩,
  ⟨(some 60), .mv (.t 73), none⟩] false
abbrev c40_38 : AC := .seq c40_36 c40_37
abbrev c40_39 : AC := .seq c40_29 c40_38
abbrev c40_40 : AC := .seq c40_28 c40_39
abbrev c40_41 : AC := .loop c40_40
abbrev c40_42 : AC := .block 4 c40_41
abbrev c40_43 : AC := .seq c40_27 c40_42
abbrev c40_44 : AC := .seq c40_26 c40_43
abbrev c40_45 : AC := .seq c40_25 c40_44
abbrev c40_46 : AC := .seq c40_22 c40_45
abbrev c40_47 : AC := .seq c40_21 c40_46
abbrev c40_48 : AC := .block 3 c40_47
abbrev c40_49 : AC := .reg [⟨(some 74), .bin .add (.t 32) (.k (.I 1)), none⟩,
  ⟨(some 32), .mv (.t 74), none⟩] false
abbrev c40_50 : AC := .seq c40_48 c40_49
abbrev c40_51 : AC := .seq c40_20 c40_50
abbrev c40_52 : AC := .seq c40_19 c40_51
abbrev c40_53 : AC := .loop c40_52
abbrev c40_54 : AC := .block 2 c40_53
abbrev c40_55 : AC := .seq c40_18 c40_54
abbrev c40_56 : AC := .reg [⟨(some 75), .mv (.t 6), none⟩,
  ⟨(some 76), .mv (.t 8), none⟩,
  ⟨(some 4), .mv (.t 75), none⟩,
  ⟨(some 5), .mv (.t 76), none⟩] false
abbrev c40_57 : AC := .seq c40_56 .ret
abbrev c40_58 : AC := .seq c40_55 c40_57
abbrev c40_59 : AC := .seq c40_17 c40_58
abbrev c40_60 : AC := .seq c40_16 c40_59
abbrev c40_61 : AC := .seq c40_2 c40_60
abbrev c40_62 : AC := .seq c40_1 c40_61
abbrev c40 : AC := c40_62
theorem code40 : fnCode Try.prog 40 = some (c40, [4, 5], 77) := by kernel_rfl
/- coinage/bridge.all -/
abbrev c49_1 : AC := .reg [⟨(some 2), .mv (.k (.B false)), none⟩] false
abbrev c49_2 : AC := .reg [⟨(some 2), .mv (.k (.B true)), none⟩] false
abbrev c49_3 : AC := .seq c49_2 .ret
abbrev c49_4 : AC := .seq c49_1 c49_3
abbrev c49 : AC := c49_4
theorem code49 : fnCode Try.prog 49 = some (c49, [2], 3) := by kernel_rfl
/- (coinage/bridge.net).widen -/
abbrev c58_1 : AC := .reg [⟨(some 5), .box 62 (some 3) (.t 0), none⟩,
  ⟨(some 10), .mv (.k (.B false)), none⟩] false
abbrev c58_2 : AC := .reg [⟨(some 21), .fad 0 (.t 5), none⟩,
  ⟨(some 22), .ld none (.t 21), none⟩,
  ⟨(some 23), .mks 3 1 8 [(.sc (.int .i64 0))] (.t 22) (.t 22), none⟩,
  ⟨(some 11), .mv (.t 23), none⟩] false
abbrev c58_3 : AC := .reg [⟨(some 24), .mv (.t 11), none⟩,
  ⟨(some 25), .len (.t 24), none⟩,
  ⟨(some 26), .mv (.k (.I 0)), none⟩] false
abbrev c58_4 : AC := .reg [⟨(some 27), .bin .lss (.t 26) (.t 25), none⟩] false
abbrev c58_5 : AC := .cond (.t 27) .skip (.exit 0)
abbrev c58_6 : AC := .reg [⟨(some 28), .mv (.t 26), none⟩,
  ⟨(some 12), .mv (.t 28), none⟩] false
abbrev c58_7 : AC := .reg [⟨(some 29), .mv (.t 11), none⟩,
  ⟨(some 30), .mv (.t 12), none⟩,
  ⟨(some 31), .iad 1 (.t 29) (.t 30), none⟩,
  ⟨none, .st none (.t 31) (.k (.I (-1))), none⟩] false
abbrev c58_8 : AC := .seq c58_6 c58_7
abbrev c58_9 : AC := .block 1 c58_8
abbrev c58_10 : AC := .reg [⟨(some 32), .bin .add (.t 26) (.k (.I 1)), none⟩,
  ⟨(some 26), .mv (.t 32), none⟩] false
abbrev c58_11 : AC := .seq c58_9 c58_10
abbrev c58_12 : AC := .seq c58_5 c58_11
abbrev c58_13 : AC := .seq c58_4 c58_12
abbrev c58_14 : AC := .loop c58_13
abbrev c58_15 : AC := .block 0 c58_14
abbrev c58_16 : AC := .seq c58_3 c58_15
abbrev c58_17 : AC := .reg [⟨(some 33), .fad 0 (.t 5), none⟩,
  ⟨(some 34), .ld none (.t 33), none⟩,
  ⟨(some 35), .mks 4 1 1 [(.sc (.bool false))] (.t 34) (.t 34), none⟩,
  ⟨(some 13), .mv (.t 35), none⟩] false
abbrev c58_18 : AC := .reg [⟨(some 36), .mv (.t 13), none⟩,
  ⟨(some 37), .mv (.t 1), none⟩,
  ⟨(some 38), .iad 1 (.t 36) (.t 37), none⟩,
  ⟨none, .st none (.t 38) (.k (.B true)), none⟩] false
abbrev c58_19 : AC := .reg [⟨(some 39), .mv (.t 1), none⟩,
  ⟨(some 40), .bslice 3 1 [(.t 39)], none⟩,
  ⟨(some 14), .mv (.t 40), none⟩] false
abbrev c58_20 : AC := .reg [⟨(some 41), .mv (.t 14), none⟩,
  ⟨(some 42), .len (.t 41), none⟩,
  ⟨(some 43), .bin .gtr (.t 42) (.k (.I 0)), none⟩,
  ⟨(some 44), .mv (.t 43), none⟩,
  ⟨(some 45), .mv (.t 13), (some (44, true))⟩,
  ⟨(some 46), .mv (.t 2), (some (44, true))⟩,
  ⟨(some 47), .iad 1 (.t 45) (.t 46), (some (44, true))⟩,
  ⟨(some 48), .ld none (.t 47), (some (44, true))⟩,
  ⟨(some 49), .not (.t 48), (some (44, true))⟩,
  ⟨(some 50), .pick (.t 44) (.t 49) (.k (.B false)), none⟩] false
abbrev c58_21 : AC := .cond (.t 50) .skip (.exit 2)
abbrev c58_22 : AC := .seq c58_20 c58_21
abbrev c58_23 : AC := .reg [⟨(some 53), .fad 2 (.t 5), none⟩,
  ⟨(some 54), .ld none (.t 53), none⟩,
  ⟨(some 55), .len (.t 54), none⟩,
  ⟨(some 56), .mv (.k (.I 0)), none⟩] false
abbrev c58_24 : AC := .reg [⟨(some 57), .bin .lss (.t 56) (.t 55), none⟩] false
abbrev c58_25 : AC := .cond (.t 57) .skip (.exit 4)
abbrev c58_26 : AC := .reg [⟨(some 58), .mv (.t 56), none⟩,
  ⟨(some 59), .iad 2 (.t 54) (.t 56), none⟩,
  ⟨(some 60), .ld (some 2) (.t 59), none⟩,
  ⟨(some 16), .alloc 74 [(.I 0), (.I 0)], none⟩,
  ⟨(some 15), .mv (.t 58), none⟩,
  ⟨none, .st (some 2) (.t 16) (.t 60), none⟩] false
abbrev c58_27 : AC := .reg [⟨(some 61), .mv (.t 4), none⟩,
  ⟨(some 62), .mv (.t 15), none⟩,
  ⟨(some 63), .iad 1 (.t 61) (.t 62), none⟩,
  ⟨(some 64), .ld none (.t 63), none⟩] false
abbrev c58_28 : AC := .cond (.t 64) (.exit 5) .skip
abbrev c58_29 : AC := .seq c58_27 c58_28
abbrev c58_30 : AC := .reg [⟨(some 65), .build [(.I 0), (.I 0)] [(0, 1, (.k (.I 1))), (1, 1, (.k (.I (-1))))], none⟩,
  ⟨(some 66), .mv (.k (.I 0)), none⟩] false
abbrev c58_31 : AC := .reg [⟨(some 67), .bin .lss (.t 66) (.k (.I 2)), none⟩] false
abbrev c58_32 : AC := .cond (.t 67) .skip (.exit 6)
abbrev c58_33 : AC := .reg [⟨(some 68), .mv (.t 66), none⟩,
  ⟨(some 69), .idx 2 1 false (.t 65) (.t 66), none⟩,
  ⟨(some 17), .mv (.t 68), none⟩,
  ⟨(some 18), .mv (.t 69), none⟩] false
abbrev c58_34 : AC := .regD [(⟨(some 70), .mv (.t 17), none⟩, [17]),
  (⟨(some 71), .iadA 2 1 (.t 16) (.t 70), none⟩, [16, 70]),
  (⟨(some 72), .ld none (.t 71), none⟩, [71]),
  (⟨(some 73), .mv (.t 14), none⟩, [14]),
  (⟨(some 74), .iad 1 (.t 73) (.k (.I 0)), none⟩, [73]),
  (⟨(some 75), .ld none (.t 74), none⟩, [74]),
  (⟨(some 76), .bin .eql (.t 72) (.t 75), none⟩, [72, 75]),
  (⟨(some 77), .mv (.t 76), none⟩, [76]),
  (⟨(some 78), .mv (.t 3), (some (77, true))⟩, [3, 77]),
  (⟨(some 79), .mv (.t 15), (some (77, true))⟩, [15, 77]),
  (⟨(some 80), .iad 1 (.t 78) (.t 79), (some (77, true))⟩, [78, 79, 77]),
  (⟨(some 81), .ld none (.t 80), (some (77, true))⟩, [80, 77]),
  (⟨(some 82), .mv (.t 18), (some (77, true))⟩, [18, 77]),
  (⟨(some 83), .bin .neq (.t 81) (.t 82), (some (77, true))⟩, [81, 82, 77]),
  (⟨(some 84), .pick (.t 77) (.t 83) (.k (.B false)), none⟩, [77, 83]),
  (⟨(some 85), .mv (.t 84), none⟩, [84]),
  (⟨(some 86), .mv (.t 13), (some (85, true))⟩, [13, 85]),
  (⟨(some 87), .mv (.t 17), (some (85, true))⟩, [17, 85]),
  (⟨(some 88), .bin .sub (.k (.I 1)) (.t 87), (some (85, true))⟩, [87, 85]),
  (⟨(some 89), .iadA 2 1 (.t 16) (.t 88), (some (85, true))⟩, [16, 88, 85]),
  (⟨(some 90), .ld none (.t 89), (some (85, true))⟩, [89, 85]),
  (⟨(some 91), .iad 1 (.t 86) (.t 90), (some (85, true))⟩, [86, 90, 85]),
  (⟨(some 92), .ld none (.t 91), (some (85, true))⟩, [91, 85]),
  (⟨(some 93), .not (.t 92), (some (85, true))⟩, [92, 85]),
  (⟨(some 94), .pick (.t 85) (.t 93) (.k (.B false)), none⟩, [85, 93])]
abbrev c58_35 : AC := .regX (.first ⟨(some 95), .mv (.t 13), none⟩
  (.first ⟨(some 96), .mv (.t 17), none⟩
  (.first ⟨(some 97), .bin .sub (.k (.I 1)) (.t 96), none⟩
  (.first ⟨(some 98), .iadA 2 1 (.t 16) (.t 97), none⟩
  (.first ⟨(some 100), .mv (.t 11), none⟩
  (.first ⟨(some 101), .mv (.t 17), none⟩
  (.first ⟨(some 102), .bin .sub (.k (.I 1)) (.t 101), none⟩
  (.first ⟨(some 103), .iadA 2 1 (.t 16) (.t 102), none⟩
  (.first ⟨(some 105), .mv (.t 15), none⟩
  (.fork ⟨(some 99), .ld none (.t 98), none⟩
  (.first ⟨(some 106), .iad 1 (.t 95) (.t 99), none⟩
  (.fork ⟨(some 104), .ld none (.t 103), none⟩
  (.fork ⟨none, .st none (.t 106) (.k (.B true)), none⟩
  (.first ⟨(some 107), .iad 1 (.t 100) (.t 104), none⟩
  (.fork ⟨none, .st none (.t 107) (.t 105), none⟩
  .done
  .nope))
  .nope)
  (.fork ⟨none, .st none (.t 106) (.k (.B true)), none⟩
  (.fork ⟨(some 104), .ld none (.t 103), none⟩
  (.first ⟨(some 107), .iad 1 (.t 100) (.t 104), none⟩
  (.fork ⟨none, .st none (.t 107) (.t 105), none⟩
  .done
  .nope))
  .nope)
  .nope)))
  (.fork ⟨(some 104), .ld none (.t 103), none⟩
  (.fork ⟨(some 99), .ld none (.t 98), none⟩
  (.first ⟨(some 106), .iad 1 (.t 95) (.t 99), none⟩
  (.fork ⟨none, .st none (.t 106) (.k (.B true)), none⟩
  (.first ⟨(some 107), .iad 1 (.t 100) (.t 104), none⟩
  (.fork ⟨none, .st none (.t 107) (.t 105), none⟩
  .done
  .nope))
  .nope))
  .nope)
  .nope)))))))))))
abbrev c58_36 : AC := .reg [⟨(some 108), .mv (.t 14), none⟩,
  ⟨(some 109), .mv (.t 17), none⟩,
  ⟨(some 110), .bin .sub (.k (.I 1)) (.t 109), none⟩,
  ⟨(some 111), .iadA 2 1 (.t 16) (.t 110), none⟩,
  ⟨(some 112), .ld none (.t 111), none⟩,
  ⟨(some 113), .bslice 3 1 [(.t 112)], none⟩,
  ⟨(some 114), .app 3 1 8 (.t 108) (.t 113), none⟩,
  ⟨(some 14), .mv (.t 114), none⟩] false
abbrev c58_37 : AC := .seq c58_35 c58_36
abbrev c58_38 : AC := .cond (.t 94) c58_37 .skip
abbrev c58_39 : AC := .seq c58_34 c58_38
abbrev c58_40 : AC := .seq c58_33 c58_39
abbrev c58_41 : AC := .block 7 c58_40
abbrev c58_42 : AC := .reg [⟨(some 115), .bin .add (.t 66) (.k (.I 1)), none⟩,
  ⟨(some 66), .mv (.t 115), none⟩] false
abbrev c58_43 : AC := .seq c58_41 c58_42
abbrev c58_44 : AC := .seq c58_32 c58_43
abbrev c58_45 : AC := .seq c58_31 c58_44
abbrev c58_46 : AC := .loop c58_45
abbrev c58_47 : AC := .block 6 c58_46
abbrev c58_48 : AC := .seq c58_30 c58_47
abbrev c58_49 : AC := .seq c58_29 c58_48
abbrev c58_50 : AC := .seq c58_26 c58_49
abbrev c58_51 : AC := .block 5 c58_50
abbrev c58_52 : AC := .reg [⟨(some 116), .bin .add (.t 56) (.k (.I 1)), none⟩,
  ⟨(some 56), .mv (.t 116), none⟩] false
abbrev c58_53 : AC := .seq c58_51 c58_52
abbrev c58_54 : AC := .seq c58_25 c58_53
abbrev c58_55 : AC := .seq c58_24 c58_54
abbrev c58_56 : AC := .loop c58_55
abbrev c58_57 : AC := .block 4 c58_56
abbrev c58_58 : AC := .seq c58_23 c58_57
abbrev c58_59 : AC := .block 3 c58_58
abbrev c58_60 : AC := .reg [⟨(some 51), .mv (.t 14), none⟩,
  ⟨(some 52), .slc 1 (.t 51) (some (.k (.I 1))) none, none⟩,
  ⟨(some 14), .mv (.t 52), none⟩] false
abbrev c58_61 : AC := .seq c58_59 c58_60
abbrev c58_62 : AC := .seq c58_22 c58_61
abbrev c58_63 : AC := .loop c58_62
abbrev c58_64 : AC := .block 2 c58_63
abbrev c58_65 : AC := .seq c58_19 c58_64
abbrev c58_66 : AC := .reg [⟨(some 117), .mv (.t 13), none⟩,
  ⟨(some 118), .mv (.t 2), none⟩,
  ⟨(some 119), .iad 1 (.t 117) (.t 118), none⟩,
  ⟨(some 120), .ld none (.t 119), none⟩,
  ⟨(some 121), .not (.t 120), none⟩] false
abbrev c58_67 : AC := .reg [⟨(some 10), .mv (.k (.B false)), none⟩] false
abbrev c58_68 : AC := .seq c58_67 .ret
abbrev c58_69 : AC := .cond (.t 121) c58_68 .skip
abbrev c58_70 : AC := .seq c58_66 c58_69
abbrev c58_71 : AC := .reg [⟨(some 122), .mv (.t 2), none⟩,
  ⟨(some 19), .mv (.t 122), none⟩] false
abbrev c58_72 : AC := .reg [⟨(some 123), .mv (.t 19), none⟩,
  ⟨(some 124), .mv (.t 1), none⟩,
  ⟨(some 125), .bin .neq (.t 123) (.t 124), none⟩] false
abbrev c58_73 : AC := .cond (.t 125) .skip (.exit 8)
abbrev c58_74 : AC := .seq c58_72 c58_73
abbrev c58_75 : AC := .regX (.first ⟨(some 126), .fad 2 (.t 5), none⟩
  (.first ⟨(some 128), .mv (.t 11), none⟩
  (.first ⟨(some 129), .mv (.t 19), none⟩
  (.first ⟨(some 130), .iad 1 (.t 128) (.t 129), none⟩
  (.fork ⟨(some 127), .ld none (.t 126), none⟩
  (.fork ⟨(some 131), .ld none (.t 130), none⟩
  (.first ⟨(some 132), .iad 2 (.t 127) (.t 131), none⟩
  (.fork ⟨(some 133), .ld (some 2) (.t 132), none⟩
  (.fork ⟨(some 20), .alloc 74 [(.I 0), (.I 0)], none⟩
  (.fork ⟨none, .st (some 2) (.t 20) (.t 133), none⟩
  .done
  .nope)
  .nope)
  (.fork ⟨(some 20), .alloc 74 [(.I 0), (.I 0)], none⟩
  (.fork ⟨(some 133), .ld (some 2) (.t 132), none⟩
  (.fork ⟨none, .st (some 2) (.t 20) (.t 133), none⟩
  .done
  .nope)
  .nope)
  .nope)))
  (.fork ⟨(some 20), .alloc 74 [(.I 0), (.I 0)], none⟩
  (.fork ⟨(some 131), .ld none (.t 130), none⟩
  (.first ⟨(some 132), .iad 2 (.t 127) (.t 131), none⟩
  (.fork ⟨(some 133), .ld (some 2) (.t 132), none⟩
  (.fork ⟨none, .st (some 2) (.t 20) (.t 133), none⟩
  .done
  .nope)
  .nope))
  .nope)
  .nope))
  (.fork ⟨(some 131), .ld none (.t 130), none⟩
  (.fork ⟨(some 127), .ld none (.t 126), none⟩
  (.first ⟨(some 132), .iad 2 (.t 127) (.t 131), none⟩
  (.fork ⟨(some 133), .ld (some 2) (.t 132), none⟩
  (.fork ⟨(some 20), .alloc 74 [(.I 0), (.I 0)], none⟩
  (.fork ⟨none, .st (some 2) (.t 20) (.t 133), none⟩
  .done
  .nope)
  .nope)
  (.fork ⟨(some 20), .alloc 74 [(.I 0), (.I 0)], none⟩
  (.fork ⟨(some 133), .ld (some 2) (.t 132), none⟩
  (.fork ⟨none, .st (some 2) (.t 20) (.t 133), none⟩
  .done
  .nope)
  .nope)
  .nope)))
  (.fork ⟨(some 20), .alloc 74 [(.I 0), (.I 0)], none⟩
  (.fork ⟨(some 127), .ld none (.t 126), none⟩
  (.first ⟨(some 132), .iad 2 (.t 127) (.t 131), none⟩
  (.fork ⟨(some 133), .ld (some 2) (.t 132), none⟩
  (.fork ⟨none, .st (some 2) (.t 20) (.t 133), none⟩
  .done
  .nope)
  .nope))
  .nope)
  .nope))
  (.fork ⟨(some 20), .alloc 74 [(.I 0), (.I 0)], none⟩
  (.fork ⟨(some 127), .ld none (.t 126), none⟩
  (.fork ⟨(some 131), .ld none (.t 130), none⟩
  (.first ⟨(some 132), .iad 2 (.t 127) (.t 131), none⟩
  (.fork ⟨(some 133), .ld (some 2) (.t 132), none⟩
  (.fork ⟨none, .st (some 2) (.t 20) (.t 133), none⟩
  .done
  .nope)
  .nope))
  .nope)
  (.fork ⟨(some 131), .ld none (.t 130), none⟩
  (.fork ⟨(some 127), .ld none (.t 126), none⟩
  (.first ⟨(some 132), .iad 2 (.t 127) (.t 131), none⟩
  (.fork ⟨(some 133), .ld (some 2) (.t 132), none⟩
  (.fork ⟨none, .st (some 2) (.t 20) (.t 133), none⟩
  .done
  .nope)
  .nope))
  .nope)
  .nope))
  .nope)))))))
abbrev c58_76 : AC := .reg [⟨(some 134), .iadA 2 1 (.t 20) (.k (.I 1)), none⟩,
  ⟨(some 135), .ld none (.t 134), none⟩,
  ⟨(some 136), .mv (.t 19), none⟩,
  ⟨(some 137), .bin .eql (.t 135) (.t 136), none⟩] false
abbrev c58_77 : AC := .reg [⟨(some 138), .mv (.t 3), none⟩,
  ⟨(some 139), .mv (.t 11), none⟩,
  ⟨(some 140), .mv (.t 19), none⟩,
  ⟨(some 141), .iad 1 (.t 139) (.t 140), none⟩,
  ⟨(some 142), .ld none (.t 141), none⟩,
  ⟨(some 143), .iad 1 (.t 138) (.t 142), none⟩,
  ⟨(some 144), .ld none (.t 143), none⟩,
  ⟨(some 145), .bin .add (.t 144) (.k (.I 1)), none⟩,
  ⟨(some 146), .iad 1 (.t 138) (.t 142), none⟩,
  ⟨none, .st none (.t 146) (.t 145), none⟩] false
abbrev c58_78 : AC := .reg [⟨(some 147), .iadA 2 1 (.t 20) (.k (.I 0)), none⟩,
  ⟨(some 148), .ld none (.t 147), none⟩,
  ⟨(some 19), .mv (.t 148), none⟩] false
abbrev c58_79 : AC := .seq c58_77 c58_78
abbrev c58_80 : AC := .reg [⟨(some 149), .mv (.t 3), none⟩,
  ⟨(some 150), .mv (.t 11), none⟩,
  ⟨(some 151), .mv (.t 19), none⟩,
  ⟨(some 152), .iad 1 (.t 150) (.t 151), none⟩,
  ⟨(some 153), .ld none (.t 152), none⟩,
  ⟨(some 154), .iad 1 (.t 149) (.t 153), none⟩,
  ⟨(some 155), .ld none (.t 154), none⟩,
  ⟨(some 156), .bin .sub (.t 155) (.k (.I 1)), none⟩,
  ⟨(some 157), .iad 1 (.t 149) (.t 153), none⟩,
  ⟨none, .st none (.t 157) (.t 156), none⟩] false
abbrev c58_81 : AC := .reg [⟨(some 158), .iadA 2 1 (.t 20) (.k (.I 1)), none⟩,
  ⟨(some 159), .ld none (.t 158), none⟩,
  ⟨(some 19), .mv (.t 159), none⟩] false
abbrev c58_82 : AC := .seq c58_80 c58_81
abbrev c58_83 : AC := .cond (.t 137) c58_79 c58_82
abbrev c58_84 : AC := .seq c58_76 c58_83
abbrev c58_85 : AC := .seq c58_75 c58_84
abbrev c58_86 : AC := .block 9 c58_85
abbrev c58_87 : AC := .seq c58_74 c58_86
abbrev c58_88 : AC := .loop c58_87
abbrev c58_89 : AC := .block 8 c58_88
abbrev c58_90 : AC := .seq c58_71 c58_89
abbrev c58_91 : AC := .reg [⟨(some 10), .mv (.k (.B true)), none⟩] false
abbrev c58_92 : AC := .seq c58_91 .ret
abbrev c58_93 : AC := .seq c58_90 c58_92
abbrev c58_94 : AC := .seq c58_70 c58_93
abbrev c58_95 : AC := .seq c58_65 c58_94
abbrev c58_96 : AC := .seq c58_18 c58_95
abbrev c58_97 : AC := .seq c58_17 c58_96
abbrev c58_98 : AC := .seq c58_16 c58_97
abbrev c58_99 : AC := .seq c58_2 c58_98
abbrev c58_100 : AC := .seq c58_1 c58_99
abbrev c58 : AC := c58_100
theorem code58 : fnCode Try.prog 58 = some (c58, [10], 160) := by kernel_rfl
/- coinage/coinageref15.augment -/
/- (coinage/bridge.net).bridges$1 -/
abbrev c60_1 : AC := .reg [⟨(some 3), .mv (.k (.B false)), none⟩] false
abbrev c60_2 : AC := .reg [⟨(some 4), .mv (.t 0), none⟩,
  ⟨(some 5), .ld none (.t 1), none⟩,
  ⟨(some 6), .bin .neq (.t 4) (.t 5), none⟩,
  ⟨(some 3), .mv (.t 6), none⟩] false
abbrev c60_3 : AC := .seq c60_2 .ret
abbrev c60_4 : AC := .seq c60_1 c60_3
abbrev c60 : AC := c60_4
theorem code60 : fnCode Try.prog 60 = some (c60, [3], 7) := by kernel_rfl

end Go.Proofs.Ytgldpbghbkoolaa

