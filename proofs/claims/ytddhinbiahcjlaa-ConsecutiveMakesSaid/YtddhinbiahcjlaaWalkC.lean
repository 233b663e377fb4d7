/-
  Lemmas for the proof: no statement of its own.
-/
import Derived.Test.YtddhinbiahcjlaaIterA
import Derived.Test.YtddhinbiahcjlaaPlainA
import Derived.Test.YtddhinbiahcjlaaWalkB
set_option linter.unusedVariables false
set_option linter.unusedSimpArgs false
-- P p_27s.txt
open Go Go.AL Go.RowKit
namespace Go.Proofs.Ytddhinbiahcjlaa
set_option maxRecDepth 20000
/- coinage/coinagelaw27.awake -/
abbrev c4_1 : AC := .reg [⟨(some 0), .mv (.k (.B false)), none⟩] false
abbrev c4_2 : AC := .reg [⟨(some 8), .bslice 3 1 [(.k (.I 0)), (.k (.I 2))], none⟩,
  ⟨(some 9), .bslice 3 1 [(.k (.I 2)), (.k (.I 3))], none⟩,
  ⟨(some 10), .bslice 3 1 [(.k (.I 1))], none⟩,
  ⟨(some 11), .bslice 31 1 [(.t 8), (.t 9), (.t 10)], none⟩,
  ⟨(some 1), .mv (.t 11), none⟩] false
abbrev c4_3 : AC := .reg [⟨(some 13), .mv (.t 1), none⟩,
  ⟨(some 14), .call 9 [(.k (.I 4)), (.t 13)], none⟩,
  ⟨(some 12), .mv (.t 14), none⟩,
  ⟨(some 15), .ext (.t 12) 0, none⟩,
  ⟨(some 16), .ext (.t 12) 1, none⟩,
  ⟨(some 2), .mv (.t 15), none⟩,
  ⟨(some 3), .mv (.t 16), none⟩] false
abbrev c4_4 : AC := .reg [⟨(some 18), .mv (.t 1), none⟩,
  ⟨(some 19), .call 10 [(.k (.I 4)), (.t 18)], none⟩,
  ⟨(some 17), .mv (.t 19), none⟩,
  ⟨(some 20), .ext (.t 17) 0, none⟩,
  ⟨(some 21), .ext (.t 17) 1, none⟩,
  ⟨(some 4), .mv (.t 20), none⟩,
  ⟨(some 5), .mv (.t 21), none⟩] false
abbrev c4_5 : AC := .reg [⟨(some 23), .mv (.t 1), none⟩,
  ⟨(some 24), .bslice 3 1 [(.k (.I 0)), (.k (.I 1)), (.k (.I 2)), (.k (.I 3))], none⟩,
  ⟨(some 25), .call 11 [(.k (.I 4)), (.t 23), (.t 24)], none⟩,
  ⟨(some 22), .mv (.t 25), none⟩,
  ⟨(some 26), .ext (.t 22) 0, none⟩,
  ⟨(some 27), .ext (.t 22) 1, none⟩,
  ⟨(some 6), .mv (.t 26), none⟩,
  ⟨(some 7), .mv (.t 27), none⟩] false
abbrev c4_6 : AC := .reg [⟨(some 28), .mv (.t 3), none⟩,
  ⟨(some 29), .bin .eql (.t 28) (.k (.I 0)), none⟩,
  ⟨(some 30), .mv (.t 29), none⟩,
  ⟨(some 31), .mv (.t 2), (some (30, true))⟩,
  ⟨(some 32), .bslice 3 1 [(.k (.I 0)), (.k (.I 2)), (.k (.I 3)), (.k (.I 1))], (some (30, true))⟩,
  ⟨(some 33), .call 12 [(.t 31), (.t 32)], (some (30, true))⟩,
  ⟨(some 34), .pick (.t 30) (.t 33) (.k (.B false)), none⟩,
  ⟨(some 35), .mv (.t 34), none⟩,
  ⟨(some 36), .mv (.t 5), (some (35, true))⟩,
  ⟨(some 37), .bin .eql (.t 36) (.k (.I 0)), (some (35, true))⟩,
  ⟨(some 38), .pick (.t 35) (.t 37) (.k (.B false)), none⟩,
  ⟨(some 39), .mv (.t 38), none⟩,
  ⟨(some 40), .mv (.t 4), (some (39, true))⟩,
  ⟨(some 41), .bin .eql (.t 40) (.k (.I 4)), (some (39, true))⟩,
  ⟨(some 42), .pick (.t 39) (.t 41) (.k (.B false)), none⟩,
  ⟨(some 43), .mv (.t 42), none⟩,
  ⟨(some 44), .mv (.t 7), (some (43, true))⟩,
  ⟨(some 45), .bin .eql (.t 44) (.k (.I 0)), (some (43, true))⟩,
  ⟨(some 46), .pick (.t 43) (.t 45) (.k (.B false)), none⟩,
  ⟨(some 47), .mv (.t 46), none⟩,
  ⟨(some 48), .mv (.t 6), (some (47, true))⟩,
  ⟨(some 49), .bslice 3 1 [(.k (.I 2)), (.k (.I 1)), (.k (.I 1))], (some (47, true))⟩,
  ⟨(some 50), .call 12 [(.t 48), (.t 49)], (some (47, true))⟩,
  ⟨(some 51), .pick (.t 47) (.t 50) (.k (.B false)), none⟩,
  ⟨(some 0), .mv (.t 51), none⟩] false
abbrev c4_7 : AC := .seq c4_6 .ret
abbrev c4_8 : AC := .seq c4_5 c4_7
abbrev c4_9 : AC := .seq c4_4 c4_8
abbrev c4_10 : AC := .seq c4_3 c4_9
abbrev c4_11 : AC := .seq c4_2 c4_10
abbrev c4_12 : AC := .seq c4_1 c4_11
abbrev c4 : AC := c4_12
theorem code4 : fnCode Try.prog 4 = some (c4, [0], 52) := by kernel_rfl
/- coinage/consecutive.Count -/
abbrev c10_1 : AC := .reg [⟨(some 4), .mv (.k (.I 0)), none⟩,
  ⟨(some 5), .mv (.k (.I 0)), none⟩] false
abbrev c10_2 : AC := .reg [⟨(some 7), .mv (.t 0), none⟩,
  ⟨(some 8), .mv (.t 1), none⟩,
  ⟨(some 9), .call 8 [(.t 7), (.t 8)], none⟩,
  ⟨(some 10), .not (.t 9), none⟩] false
abbrev c10_3 : AC := .reg [⟨(some 4), .mv (.k (.I 0)), none⟩,
  ⟨(some 5), .mv (.k (.I 1)), none⟩] false
abbrev c10_4 : AC := .seq c10_3 .ret
abbrev c10_5 : AC := .cond (.t 10) c10_4 .skip
abbrev c10_6 : AC := .seq c10_2 c10_5
abbrev c10_7 : AC := .reg [⟨(some 6), .alloc 3 [(.I 0)], none⟩,
  ⟨none, .st none (.t 6) (.k (.I 0)), none⟩] false
abbrev c10_8 : AC := .reg [⟨(some 11), .mv (.t 0), none⟩,
  ⟨(some 12), .mv (.t 1), none⟩,
  ⟨(some 13), .mkfn 24 [(.t 6)], none⟩,
  ⟨(some 14), .call 22 [(.t 11), (.t 12), (.t 13)], none⟩] false
abbrev c10_9 : AC := .reg [⟨(some 15), .ld none (.t 6), none⟩,
  ⟨(some 4), .mv (.t 15), none⟩,
  ⟨(some 5), .mv (.k (.I 0)), none⟩] false
abbrev c10_10 : AC := .seq c10_9 .ret
abbrev c10_11 : AC := .seq c10_8 c10_10
abbrev c10_12 : AC := .seq c10_7 c10_11
abbrev c10_13 : AC := .seq c10_6 c10_12
abbrev c10_14 : AC := .seq c10_1 c10_13
abbrev c10 : AC := c10_14
theorem code10 : fnCode Try.prog 10 = some (c10, [4, 5], 16) := by kernel_rfl
/- coinage/consecutive.Runs -/
abbrev c11_1 : AC := .reg [⟨(some 6), .mv (.k (.c .nil)), none⟩,
  ⟨(some 7), .mv (.k (.I 0)), none⟩] false
abbrev c11_2 : AC := .reg [⟨(some 12), .mv (.t 0), none⟩,
  ⟨(some 13), .mv (.t 1), none⟩,
  ⟨(some 14), .mv (.t 2), none⟩,
  ⟨(some 15), .call 25 [(.t 12), (.t 13), (.t 14)], none⟩,
  ⟨(some 8), .mv (.t 15), none⟩] false
abbrev c11_3 : AC := .reg [⟨(some 16), .mv (.t 8), none⟩,
  ⟨(some 17), .bin .neq (.t 16) (.k (.I 0)), none⟩] false
abbrev c11_4 : AC := .reg [⟨(some 18), .mv (.t 8), none⟩,
  ⟨(some 6), .mv (.k (.c .nil)), none⟩,
  ⟨(some 7), .mv (.t 18), none⟩] false
abbrev c11_5 : AC := .seq c11_4 .ret
abbrev c11_6 : AC := .cond (.t 17) c11_5 .skip
abbrev c11_7 : AC := .seq c11_3 c11_6
abbrev c11_8 : AC := .seq c11_2 c11_7
abbrev c11_9 : AC := .reg [⟨(some 9), .mv (.k (.c .nil)), none⟩] false
abbrev c11_10 : AC := .reg [⟨(some 19), .mv (.t 1), none⟩,
  ⟨(some 20), .len (.t 19), none⟩,
  ⟨(some 21), .mv (.k (.I 0)), none⟩] false
abbrev c11_11 : AC := .reg [⟨(some 22), .bin .lss (.t 21) (.t 20), none⟩] false
abbrev c11_12 : AC := .cond (.t 22) .skip (.exit 0)
abbrev c11_13 : AC := .reg [⟨(some 23), .iad 1 (.t 19) (.t 21), none⟩,
  ⟨(some 24), .ld none (.t 23), none⟩,
  ⟨(some 11), .mv (.t 24), none⟩] false
abbrev c11_14 : AC := .reg [⟨(some 25), .mv (.t 9), none⟩,
  ⟨(some 26), .mv (.t 11), none⟩,
  ⟨(some 27), .mv (.t 2), none⟩,
  ⟨(some 28), .call 26 [(.t 26), (.t 27)], none⟩,
  ⟨(some 29), .bslice 3 1 [(.t 28)], none⟩,
  ⟨(some 30), .app 3 1 8 (.t 25) (.t 29), none⟩,
  ⟨(some 9), .mv (.t 30), none⟩] false
abbrev c11_15 : AC := .seq c11_13 c11_14
abbrev c11_16 : AC := .block 1 c11_15
abbrev c11_17 : AC := .reg [⟨(some 31), .bin .add (.t 21) (.k (.I 1)), none⟩,
  ⟨(some 21), .mv (.t 31), none⟩] false
abbrev c11_18 : AC := .seq c11_16 c11_17
abbrev c11_19 : AC := .seq c11_12 c11_18
abbrev c11_20 : AC := .seq c11_11 c11_19
abbrev c11_21 : AC := .loop c11_20
abbrev c11_22 : AC := .block 0 c11_21
abbrev c11_23 : AC := .seq c11_10 c11_22
abbrev c11_24 : AC := .reg [⟨(some 32), .mv (.t 9), none⟩,
  ⟨(some 6), .mv (.t 32), none⟩,
  ⟨(some 7), .mv (.k (.I 0)), none⟩] false
abbrev c11_25 : AC := .seq c11_24 .ret
abbrev c11_26 : AC := .seq c11_23 c11_25
abbrev c11_27 : AC := .seq c11_9 c11_26
abbrev c11_28 : AC := .seq c11_8 c11_27
abbrev c11_29 : AC := .seq c11_1 c11_28
abbrev c11 : AC := c11_29
theorem code11 : fnCode Try.prog 11 = some (c11, [6, 7], 33) := by kernel_rfl
/- coinage/consecutive.Count$1 -/
abbrev c24_1 : AC := .reg [⟨(some 3), .mv (.k (.B false)), none⟩] false
abbrev c24_2 : AC := .reg [⟨(some 4), .ld none (.t 1), none⟩,
  ⟨(some 5), .bin .add (.t 4) (.k (.I 1)), none⟩,
  ⟨none, .st none (.t 1) (.t 5), none⟩] false
abbrev c24_3 : AC := .reg [⟨(some 3), .mv (.k (.B true)), none⟩] false
abbrev c24_4 : AC := .seq c24_3 .ret
abbrev c24_5 : AC := .seq c24_2 c24_4
abbrev c24_6 : AC := .seq c24_1 c24_5
abbrev c24 : AC := c24_6
theorem code24 : fnCode Try.prog 24 = some (c24, [3], 6) := by kernel_rfl
/- coinage/consecutive.check -/
abbrev c25_1 : AC := .reg [⟨(some 6), .mv (.k (.I 0)), none⟩] false
abbrev c25_2 : AC := .reg [⟨(some 8), .mv (.t 0), none⟩,
  ⟨(some 9), .mv (.t 1), none⟩,
  ⟨(some 10), .call 8 [(.t 8), (.t 9)], none⟩,
  ⟨(some 11), .not (.t 10), none⟩,
  ⟨(some 7), .mv (.t 11), none⟩] false
abbrev c25_3 : AC := .reg [⟨(some 6), .mv (.k (.I 1)), none⟩] false
abbrev c25_4 : AC := .seq c25_3 .ret
abbrev c25_5 : AC := .reg [⟨(some 13), .mv (.t 0), none⟩,
  ⟨(some 14), .mv (.t 2), none⟩,
  ⟨(some 15), .call 37 [(.t 13), (.t 14)], none⟩,
  ⟨(some 16), .not (.t 15), none⟩,
  ⟨(some 12), .mv (.t 16), none⟩] false
abbrev c25_6 : AC := .reg [⟨(some 6), .mv (.k (.I 2)), none⟩] false
abbrev c25_7 : AC := .seq c25_6 .ret
abbrev c25_8 : AC := .cond (.t 12) c25_7 .skip
abbrev c25_9 : AC := .seq c25_5 c25_8
abbrev c25_10 : AC := .cond (.t 7) c25_4 c25_9
abbrev c25_11 : AC := .seq c25_2 c25_10
abbrev c25_12 : AC := .block 0 c25_11
abbrev c25_13 : AC := .reg [⟨(some 6), .mv (.k (.I 0)), none⟩] false
abbrev c25_14 : AC := .seq c25_13 .ret
abbrev c25_15 : AC := .seq c25_12 c25_14
abbrev c25_16 : AC := .seq c25_1 c25_15
abbrev c25 : AC := c25_16
theorem code25 : fnCode Try.prog 25 = some (c25, [6], 17) := by kernel_rfl
/- coinage/consecutive.runs -/
abbrev c26_1 : AC := .reg [⟨(some 4), .mv (.k (.I 0)), none⟩] false
abbrev c26_2 : AC := .reg [⟨(some 5), .mv (.k (.I 0)), none⟩,
  ⟨(some 6), .mv (.k (.B false)), none⟩] false
abbrev c26_3 : AC := .reg [⟨(some 10), .mv (.t 1), none⟩,
  ⟨(some 11), .len (.t 10), none⟩,
  ⟨(some 12), .mv (.k (.I 0)), none⟩] false
abbrev c26_4 : AC := .reg [⟨(some 13), .bin .lss (.t 12) (.t 11), none⟩] false
abbrev c26_5 : AC := .cond (.t 13) .skip (.exit 0)
abbrev c26_6 : AC := .reg [⟨(some 14), .iad 1 (.t 10) (.t 12), none⟩,
  ⟨(some 15), .ld none (.t 14), none⟩,
  ⟨(some 8), .mv (.t 15), none⟩] false
abbrev c26_7 : AC := .reg [⟨(some 16), .mv (.t 0), none⟩,
  ⟨(some 17), .mv (.t 8), none⟩,
  ⟨(some 18), .call 18 [(.t 16), (.t 17)], none⟩,
  ⟨(some 9), .mv (.t 18), none⟩] false
abbrev c26_8 : AC := .reg [⟨(some 19), .mv (.t 9), none⟩,
  ⟨(some 20), .mv (.t 19), none⟩,
  ⟨(some 21), .mv (.t 6), (some (20, true))⟩,
  ⟨(some 22), .not (.t 21), (some (20, true))⟩,
  ⟨(some 23), .pick (.t 20) (.t 22) (.k (.B false)), none⟩] false
abbrev c26_9 : AC := .reg [⟨(some 24), .mv (.t 5), none⟩,
  ⟨(some 25), .bin .add (.t 24) (.k (.I 1)), none⟩,
  ⟨(some 5), .mv (.t 25), none⟩] false
abbrev c26_10 : AC := .cond (.t 23) c26_9 .skip
abbrev c26_11 : AC := .seq c26_8 c26_10
abbrev c26_12 : AC := .reg [⟨(some 26), .mv (.t 9), none⟩,
  ⟨(some 6), .mv (.t 26), none⟩] false
abbrev c26_13 : AC := .seq c26_11 c26_12
abbrev c26_14 : AC := .seq c26_7 c26_13
abbrev c26_15 : AC := .seq c26_6 c26_14
abbrev c26_16 : AC := .block 1 c26_15
abbrev c26_17 : AC := .reg [⟨(some 27), .bin .add (.t 12) (.k (.I 1)), none⟩,
  ⟨(some 12), .mv (.t 27), none⟩] false
abbrev c26_18 : AC := .seq c26_16 c26_17
abbrev c26_19 : AC := .seq c26_5 c26_18
abbrev c26_20 : AC := .seq c26_4 c26_19
abbrev c26_21 : AC := .loop c26_20
abbrev c26_22 : AC := .block 0 c26_21
abbrev c26_23 : AC := .seq c26_3 c26_22
abbrev c26_24 : AC := .reg [⟨(some 28), .mv (.t 5), none⟩,
  ⟨(some 4), .mv (.t 28), none⟩] false
abbrev c26_25 : AC := .seq c26_24 .ret
abbrev c26_26 : AC := .seq c26_23 c26_25
abbrev c26_27 : AC := .seq c26_2 c26_26
abbrev c26_28 : AC := .seq c26_1 c26_27
abbrev c26 : AC := c26_28
theorem code26 : fnCode Try.prog 26 = some (c26, [4], 29) := by kernel_rfl
/- coinage/consecutive.isOrder -/
abbrev c37_1 : AC := .reg [⟨(some 4), .mv (.k (.B false)), none⟩] false
abbrev c37_2 : AC := .reg [⟨(some 8), .mv (.t 1), none⟩,
  ⟨(some 9), .call 55 [(.t 8)], none⟩,
  ⟨(some 10), .call 54 [(.t 9)], none⟩,
  ⟨(some 5), .mv (.t 10), none⟩] false
abbrev c37_3 : AC := .reg [⟨(some 11), .mv (.t 5), none⟩,
  ⟨(some 12), .len (.t 11), none⟩,
  ⟨(some 13), .mv (.k (.I 0)), none⟩] false
abbrev c37_4 : AC := .reg [⟨(some 14), .bin .lss (.t 13) (.t 12), none⟩] false
abbrev c37_5 : AC := .cond (.t 14) .skip (.exit 0)
abbrev c37_6 : AC := .reg [⟨(some 15), .mv (.t 13), none⟩,
  ⟨(some 16), .iad 1 (.t 11) (.t 13), none⟩,
  ⟨(some 17), .ld none (.t 16), none⟩,
  ⟨(some 6), .mv (.t 15), none⟩,
  ⟨(some 7), .mv (.t 17), none⟩] false
abbrev c37_7 : AC := .reg [⟨(some 18), .mv (.t 7), none⟩,
  ⟨(some 19), .mv (.t 6), none⟩,
  ⟨(some 20), .bin .neq (.t 18) (.t 19), none⟩] false
abbrev c37_8 : AC := .reg [⟨(some 4), .mv (.k (.B false)), none⟩] false
abbrev c37_9 : AC := .seq c37_8 .ret
abbrev c37_10 : AC := .cond (.t 20) c37_9 .skip
abbrev c37_11 : AC := .seq c37_7 c37_10
abbrev c37_12 : AC := .seq c37_6 c37_11
abbrev c37_13 : AC := .block 1 c37_12
abbrev c37_14 : AC := .reg [⟨(some 21), .bin .add (.t 13) (.k (.I 1)), none⟩,
  ⟨(some 13), .mv (.t 21), none⟩] false
abbrev c37_15 : AC := .seq c37_13 c37_14
abbrev c37_16 : AC := .seq c37_5 c37_15
abbrev c37_17 : AC := .seq c37_4 c37_16
abbrev c37_18 : AC := .loop c37_17
abbrev c37_19 : AC := .block 0 c37_18
abbrev c37_20 : AC := .seq c37_3 c37_19
abbrev c37_21 : AC := .reg [⟨(some 22), .mv (.t 1), none⟩,
  ⟨(some 23), .len (.t 22), none⟩,
  ⟨(some 24), .mv (.t 0), none⟩,
  ⟨(some 25), .bin .eql (.t 23) (.t 24), none⟩,
  ⟨(some 4), .mv (.t 25), none⟩] false
abbrev c37_22 : AC := .seq c37_21 .ret
abbrev c37_23 : AC := .seq c37_20 c37_22
abbrev c37_24 : AC := .seq c37_2 c37_23
abbrev c37_25 : AC := .seq c37_1 c37_24
abbrev c37 : AC := c37_25
theorem code37 : fnCode Try.prog 37 = some (c37, [4], 26) := by kernel_rfl


/-! ### orders -/
abbrev srt (o : List Int) : List Int := o.mergeSort fun x y => decide (x ≤ y)
theorem srt_perm (o : List Int) : (srt o).Perm o := List.mergeSort_perm o _
theorem srt_len (o : List Int) : (srt o).length = o.length := (srt_perm o).length_eq
theorem srt_pw {o : List Int} (h : o.Nodup) : (srt o).Pairwise (· < ·) := by
  have h1 : (srt o).Pairwise (fun x y => decide (x ≤ y) = true) := List.pairwise_mergeSort (by simp; omega) (by simp; omega) o
  have h2 : (srt o).Nodup := ((srt_perm o).nodup_iff).2 h
  refine (List.Pairwise.and h1 h2).imp fun h => ?_
  simp at h
  omega
theorem isOrd_srt (o : List Int) (n : Int) : isOrd o n = decide ((o.length : Int) = n ∧ ∀ i, i < (srt o).length → nth (srt o) i = i) := by
  unfold isOrd
  rw [Bool.eq_iff_iff, decide_eq_true_eq, decide_eq_true_eq]
  refine and_congr_right fun hn => ?_
  constructor
  · intro h
    have hp : Pre o.length o := ⟨?_, fun x hx => ?_⟩
    · obtain ⟨h1, h2⟩ := pre_iff.1 ⟨hp, rfl⟩
      have e : srt o = upto o.length := pw_ext (srt_pw h1) (upto_pw _) fun x => ((srt_perm o).mem_iff).trans (h2 x)
      intro i hi
      rw [e, upto_nth (by rw [srt_len] at hi; exact hi)]
    · rw [List.nodup_iff_pairwise_ne, List.pairwise_iff_getElem]
      intro i j hi hj hij e
      refine (h j hj).2.2 i hij ?_
      rw [nth_eq o i hi, nth_eq o j hj, e]
    · obtain ⟨i, hi, rfl⟩ := List.getElem_of_mem hx
      have := h i hi
      rw [nth_eq o i hi] at this
      omega
  · intro h
    have e : srt o = upto o.length := nth_ext (by rw [srt_len, upto_len]) fun i hi => by
      rw [h i hi, upto_nth (by rw [srt_len] at hi; exact hi)]
    have hp : o.Perm (upto o.length) := e ▸ (srt_perm o).symm
    have hnd : o.Nodup := hp.nodup_iff.2 (pw_nodup (upto_pw _))
    intro i hi
    have := mem_upto.1 (hp.mem_iff.1 (nth_mem o i hi))
    refine ⟨this.1, by omega, fun k hk e => ?_⟩
    have := nth_inj hnd hi (by omega) e
    omega
theorem w40 (n : Int) (o : List Int) (hl : o.length ≤ 1000000) : FnR Try.prog 37 [.I n, .c (Row o)] [.c (.B (isOrd o n))] := by
  have gV := fvValues o
  have gS := fSorted o hl
  have hsl := srt_len o
  have hB : isOrd o n = true ↔ ((o.length : Int) = n ∧ ∀ i, i < (srt o).length → nth (srt o) i = i) := by rw [isOrd_srt, decide_eq_true_eq]
  simp only [srt] at hsl hB
  generalize (o.mergeSort fun x y => decide (x ≤ y)) = s at gS hsl hB
  refine fn_walk code37 (by simp) ?_
  (repeat' (first | refine NextAt.mk (fun hc => ?_) (fun pre n v post hc hkey => ?_) | refine Sni.mk (fun hc => ?_) ?_ | refine Both.mk ?_ ?_ | refine AW_seq ?_ | refine AW_block ?_ | ((first | refine AW_reg ?_ | refine AW_cond ?_ | refine AW_skip ?_ | refine AW_exit ?_ | refine AW_ret ?_ | refine AW_regD (by kernel_rfl) ?_ | refine AW_regX (by kernel_rfl) ?_ | refine CallAt.fv _ _ _ (gV ..) (by rfl) ?_ | refine CallAtG.t (Eq.refl true) ?_ | refine CallAtG.f (Eq.refl false) ?_ | refine CallAt.mk _ (gS ..) (by first | (intro h; cases h; done) | (intro _; repeat' (first | exact List.forall_mem_nil _ | trivial | refine List.forall_mem_cons.2 ⟨?_, ?_⟩)) | (intro _; simp [RV.flatP, CD.flatP]; done)) ?_ | refine CallAtG.mk _ (fun _ => gS ..) ?_ | refine CallDS.mk _ (by simp [RV.data]) (fun _ => gS ..) (by first | (intro h; cases h; done) | (intro _; repeat' (first | exact List.forall_mem_nil _ | trivial | refine List.forall_mem_cons.2 ⟨?_, ?_⟩)) | (intro _; simp [RV.flatP, CD.flatP]; done)) ?_); try simp (disch := omega) only [go_sem, seval, reduceCtorEq, ↓reduceIte, beq_dec, Int.toNat_natCast, IntKind.signed, IntKind.bits]) | refine And.intro (fun hc => (?_ : AW _ _ _ _)) (fun hc => (?_ : AW _ _ _ _)) | simp (disch := omega) only [go_sem, seval, reduceCtorEq, ↓reduceIte, beq_dec, Int.toNat_natCast, IntKind.signed, IntKind.bits] | (refine And.intro ?_ ?_; focus (first | (intros; omega) | (intros; simp_all; done))) | refine And.intro (?_ : CallAt _ _ _ _ _ _ _ _) ?_ | refine And.intro (?_ : CallAt _ _ _ _ _ _ _ _ ∧ _) ?_ | refine And.intro (?_ : AW _ _ _ _) ?_ | fail))
  refine AW_loopK [0, 1, 11, 12] [4, 6, 7, 13, 14, 15, 16, 17, 18, 19, 20, 21] (fun i : Nat => i ≤ s.length ∧ ∀ j, j < i → nth s j = j) (fun i => [(13, .I i)]) (fun _ => []) (fun i => s.length - i) 0 ⟨by omega, by omega⟩ ?_ ?_
  · simp (disch := omega) only [go_sem, seval, reduceCtorEq, ↓reduceIte, beq_dec, Int.toNat_natCast, IntKind.signed, IntKind.bits, Int.natCast_zero]
  · rintro i ⟨hi, hb⟩
    (repeat' (first | refine NextAt.mk (fun hc => ?_) (fun pre n v post hc hkey => ?_) | refine Sni.mk (fun hc => ?_) ?_ | refine Both.mk ?_ ?_ | refine AW_seq ?_ | refine AW_block ?_ | ((first | refine AW_reg ?_ | refine AW_cond ?_ | refine AW_skip ?_ | refine AW_exit ?_ | refine AW_ret ?_ | refine AW_regD (by kernel_rfl) ?_ | refine AW_regX (by kernel_rfl) ?_ | refine CallAtG.t (Eq.refl true) ?_ | refine CallAtG.f (Eq.refl false) ?_); try simp (disch := omega) only [go_sem, seval, reduceCtorEq, ↓reduceIte, beq_dec, Int.toNat_natCast, IntKind.signed, IntKind.bits, getD_map (fun x : Int => [CD.I x])]) | refine And.intro (fun hc => (?_ : AW _ _ _ _)) (fun hc => (?_ : AW _ _ _ _)) | simp (disch := omega) only [go_sem, seval, reduceCtorEq, ↓reduceIte, beq_dec, Int.toNat_natCast, IntKind.signed, IntKind.bits, getD_map (fun x : Int => [CD.I x])] | (refine And.intro ?_ ?_; focus (first | (intros; omega) | (intros; simp_all; done))) | refine And.intro (?_ : CallAt _ _ _ _ _ _ _ _) ?_ | refine And.intro (?_ : CallAt _ _ _ _ _ _ _ _ ∧ _) ?_ | refine And.intro (?_ : AW _ _ _ _) ?_ | fail))
    · symm
      rw [← Bool.not_eq_true, hB]
      exact fun h => absurd (h.2 i (by omega)) (by omega)
    · refine .mk (i + 1) ⟨by omega, step_lt hb (by omega)⟩ (by omega) ?_
      simp (disch := omega) only [go_sem, seval, reduceCtorEq, ↓reduceIte, beq_dec, Int.toNat_natCast, IntKind.signed, IntKind.bits, Int.natCast_add, Int.natCast_one]
    · rw [Bool.eq_iff_iff, decide_eq_true_eq, hB]
      exact ⟨fun h => ⟨h, fun j hj => hb j (by omega)⟩, fun h => h.1⟩
/-! ### runs -/
def bef (row order : List Int) (i : Nat) : Bool := decide (0 < i ∧ nth order (i - 1) ∈ row)
theorem w34 (row order : List Int) : FnR Try.prog 26 [.c (Row row), .c (Row order)] [.c (.I (runsN row order order.length : Nat))] := by
  refine FnR_len (pre := [.c (Row row)]) (post := []) (fnCode_callB code26) fun hl => ?_
  simp only [List.length_map, maxLen] at hl
  refine fn_walk code26 (by simp) ?_
  (repeat' (first | refine NextAt.mk (fun hc => ?_) (fun pre n v post hc hkey => ?_) | refine Sni.mk (fun hc => ?_) ?_ | refine Both.mk ?_ ?_ | refine AW_seq ?_ | refine AW_block ?_ | ((first | refine AW_reg ?_ | refine AW_cond ?_ | refine AW_skip ?_ | refine AW_exit ?_ | refine AW_ret ?_ | refine AW_regD (by kernel_rfl) ?_ | refine AW_regX (by kernel_rfl) ?_ | refine CallAtG.t (Eq.refl true) ?_ | refine CallAtG.f (Eq.refl false) ?_); try simp (disch := omega) only [go_sem, seval, reduceCtorEq, ↓reduceIte, beq_dec, Int.toNat_natCast, IntKind.signed, IntKind.bits]) | refine And.intro (fun hc => (?_ : AW _ _ _ _)) (fun hc => (?_ : AW _ _ _ _)) | simp (disch := omega) only [go_sem, seval, reduceCtorEq, ↓reduceIte, beq_dec, Int.toNat_natCast, IntKind.signed, IntKind.bits] | (refine And.intro ?_ ?_; focus (first | (intros; omega) | (intros; simp_all; done))) | refine And.intro (?_ : CallAt _ _ _ _ _ _ _ _) ?_ | refine And.intro (?_ : CallAt _ _ _ _ _ _ _ _ ∧ _) ?_ | refine And.intro (?_ : AW _ _ _ _) ?_ | fail))
  refine AW_loopK [0, 10, 11] [5, 6, 8, 9, 12, 13, 14, 15, 16, 17, 18, 19, 20, 21, 22, 23, 24, 25, 26, 27] (fun i : Nat => i ≤ order.length) (fun i => [(12, .I i), (5, .I (runsN row order i : Nat)), (6, .B (bef row order i))]) (fun _ => []) (fun i => order.length - i) 0 (by omega) ?_ ?_
  · simp (disch := omega) only [go_sem, seval, reduceCtorEq, ↓reduceIte, beq_dec, Int.toNat_natCast, IntKind.signed, IntKind.bits, Int.natCast_zero, runsN]
    simp [bef]
  · rintro i hi
    have hrl := runsN_le row order i
    have hb1 : bef row order (i + 1) = decide (nth order i ∈ row) := by simp [bef]
    cases hbi : bef row order i with
    | true =>
      have hb := of_decide_eq_true hbi
      have e : runsN row order (i + 1) = runsN row order i := by
        simp only [runsN]
        rw [if_neg fun h => h.2.elim (fun h => by omega) (fun h => h hb.2)]
        rfl
      (repeat' (first | refine NextAt.mk (fun hc => ?_) (fun pre n v post hc hkey => ?_) | refine Sni.mk (fun hc => ?_) ?_ | refine Both.mk ?_ ?_ | refine AW_seq ?_ | refine AW_block ?_ | ((first | refine AW_reg ?_ | refine AW_cond ?_ | refine AW_skip ?_ | refine AW_exit ?_ | refine AW_ret ?_ | refine AW_regD (by kernel_rfl) ?_ | refine AW_regX (by kernel_rfl) ?_ | refine CallAtG.t (Eq.refl true) ?_ | refine CallAtG.f (Eq.refl false) ?_ | refine CallAt.mk _ (f116 ..) (by first | (intro h; cases h; done) | (intro _; repeat' (first | exact List.forall_mem_nil _ | trivial | refine List.forall_mem_cons.2 ⟨?_, ?_⟩)) | (intro _; simp [RV.flatP, CD.flatP, getD_map (fun x : Int => [CD.I x])]; done)) ?_ | refine CallAtG.mk _ (fun _ => f116 ..) ?_ | refine CallDS.mk _ (by simp [RV.data]) (fun _ => f116 ..) (by first | (intro h; cases h; done) | (intro _; repeat' (first | exact List.forall_mem_nil _ | trivial | refine List.forall_mem_cons.2 ⟨?_, ?_⟩)) | (intro _; simp [RV.flatP, CD.flatP, getD_map (fun x : Int => [CD.I x])]; done)) ?_); try simp (disch := omega) only [go_sem, seval, reduceCtorEq, ↓reduceIte, beq_dec, Int.toNat_natCast, IntKind.signed, IntKind.bits, getD_map (fun x : Int => [CD.I x])]) | refine And.intro (fun hc => (?_ : AW _ _ _ _)) (fun hc => (?_ : AW _ _ _ _)) | simp (disch := omega) only [go_sem, seval, reduceCtorEq, ↓reduceIte, beq_dec, Int.toNat_natCast, IntKind.signed, IntKind.bits, getD_map (fun x : Int => [CD.I x])] | (refine And.intro ?_ ?_; focus (first | (intros; omega) | (intros; simp_all; done))) | refine And.intro (?_ : CallAt _ _ _ _ _ _ _ _) ?_ | refine And.intro (?_ : CallAt _ _ _ _ _ _ _ _ ∧ _) ?_ | refine And.intro (?_ : AW _ _ _ _) ?_ | fail))
      · refine .mk (i + 1) (by omega) (by omega) ?_
        simp (disch := omega) only [go_sem, seval, reduceCtorEq, ↓reduceIte, beq_dec, Int.toNat_natCast, IntKind.signed, IntKind.bits, Int.natCast_add, Int.natCast_one, e, hb1]
      · rw [show order.length = i by omega]
    | false =>
      have hb := of_decide_eq_false hbi
      (repeat' (first | refine NextAt.mk (fun hc => ?_) (fun pre n v post hc hkey => ?_) | refine Sni.mk (fun hc => ?_) ?_ | refine Both.mk ?_ ?_ | refine AW_seq ?_ | refine AW_block ?_ | ((first | refine AW_reg ?_ | refine AW_cond ?_ | refine AW_skip ?_ | refine AW_exit ?_ | refine AW_ret ?_ | refine AW_regD (by kernel_rfl) ?_ | refine AW_regX (by kernel_rfl) ?_ | refine CallAtG.t (Eq.refl true) ?_ | refine CallAtG.f (Eq.refl false) ?_ | refine CallAt.mk _ (f116 ..) (by first | (intro h; cases h; done) | (intro _; repeat' (first | exact List.forall_mem_nil _ | trivial | refine List.forall_mem_cons.2 ⟨?_, ?_⟩)) | (intro _; simp [RV.flatP, CD.flatP, getD_map (fun x : Int => [CD.I x])]; done)) ?_ | refine CallAtG.mk _ (fun _ => f116 ..) ?_ | refine CallDS.mk _ (by simp [RV.data]) (fun _ => f116 ..) (by first | (intro h; cases h; done) | (intro _; repeat' (first | exact List.forall_mem_nil _ | trivial | refine List.forall_mem_cons.2 ⟨?_, ?_⟩)) | (intro _; simp [RV.flatP, CD.flatP, getD_map (fun x : Int => [CD.I x])]; done)) ?_); try simp (disch := omega) only [go_sem, seval, reduceCtorEq, ↓reduceIte, beq_dec, Int.toNat_natCast, IntKind.signed, IntKind.bits, getD_map (fun x : Int => [CD.I x])]) | refine And.intro (fun hc => (?_ : AW _ _ _ _)) (fun hc => (?_ : AW _ _ _ _)) | simp (disch := omega) only [go_sem, seval, reduceCtorEq, ↓reduceIte, beq_dec, Int.toNat_natCast, IntKind.signed, IntKind.bits, getD_map (fun x : Int => [CD.I x])] | (refine And.intro ?_ ?_; focus (first | (intros; omega) | (intros; simp_all; done))) | refine And.intro (?_ : CallAt _ _ _ _ _ _ _ _) ?_ | refine And.intro (?_ : CallAt _ _ _ _ _ _ _ _ ∧ _) ?_ | refine And.intro (?_ : AW _ _ _ _) ?_ | fail))
      · refine .mk (i + 1) (by omega) (by omega) ?_
        have e : runsN row order (i + 1) = runsN row order i + 1 := by
          simp only [runsN]
          rw [if_pos]
          refine ⟨by assumption, ?_⟩
          by_cases h0 : i = 0
          · exact .inl h0
          · exact .inr fun h => hb ⟨by omega, h⟩
        simp (disch := omega) only [go_sem, seval, reduceCtorEq, ↓reduceIte, beq_dec, Int.toNat_natCast, IntKind.signed, IntKind.bits, Int.natCast_add, Int.natCast_one, e, hb1]
      · refine .mk (i + 1) (by omega) (by omega) ?_
        have e : runsN row order (i + 1) = runsN row order i := by
          simp only [runsN]
          rw [if_neg fun h => absurd h.1 (by assumption)]
          rfl
        simp (disch := omega) only [go_sem, seval, reduceCtorEq, ↓reduceIte, beq_dec, Int.toNat_natCast, IntKind.signed, IntKind.bits, Int.natCast_add, Int.natCast_one, e, hb1]
      · rw [show order.length = i by omega]
theorem w33 (n : Int) (t : List (List Int)) (o : List Int) (hl : o.length ≤ 1000000) : FnR Try.prog 25 [.I n, .c (Tab t), .c (Row o)] [.c (.I (runErr n t o))] := by
  have g40 := w40 n o hl
  refine fn_walk code25 (by simp) ?_
  unfold runErr
  cases hv : validT n t with
  | false =>
    have g38 := f38 n t
    rw [hv] at g38
    (repeat' (first | refine NextAt.mk (fun hc => ?_) (fun pre n v post hc hkey => ?_) | refine Sni.mk (fun hc => ?_) ?_ | refine Both.mk ?_ ?_ | refine AW_seq ?_ | refine AW_block ?_ | ((first | refine AW_reg ?_ | refine AW_cond ?_ | refine AW_skip ?_ | refine AW_exit ?_ | refine AW_ret ?_ | refine AW_regD (by kernel_rfl) ?_ | refine AW_regX (by kernel_rfl) ?_ | refine CallAtG.t (Eq.refl true) ?_ | refine CallAtG.f (Eq.refl false) ?_ | refine CallAt.mk _ (g38 ..) (by first | (intro h; cases h; done) | (intro _; repeat' (first | exact List.forall_mem_nil _ | trivial | refine List.forall_mem_cons.2 ⟨?_, ?_⟩)) | (intro _; simp [RV.flatP, CD.flatP]; done)) ?_ | refine CallAtG.mk _ (fun _ => g38 ..) ?_ | refine CallDS.mk _ (by simp [RV.data]) (fun _ => g38 ..) (by first | (intro h; cases h; done) | (intro _; repeat' (first | exact List.forall_mem_nil _ | trivial | refine List.forall_mem_cons.2 ⟨?_, ?_⟩)) | (intro _; simp [RV.flatP, CD.flatP]; done)) ?_ | refine CallAt.mk _ (g40 ..) (by first | (intro h; cases h; done) | (intro _; repeat' (first | exact List.forall_mem_nil _ | trivial | refine List.forall_mem_cons.2 ⟨?_, ?_⟩)) | (intro _; simp [RV.flatP, CD.flatP]; done)) ?_ | refine CallAtG.mk _ (fun _ => g40 ..) ?_ | refine CallDS.mk _ (by simp [RV.data]) (fun _ => g40 ..) (by first | (intro h; cases h; done) | (intro _; repeat' (first | exact List.forall_mem_nil _ | trivial | refine List.forall_mem_cons.2 ⟨?_, ?_⟩)) | (intro _; simp [RV.flatP, CD.flatP]; done)) ?_); try simp (disch := omega) only [go_sem, seval, reduceCtorEq, ↓reduceIte, beq_dec, Int.toNat_natCast, IntKind.signed, IntKind.bits]) | refine And.intro (fun hc => (?_ : AW _ _ _ _)) (fun hc => (?_ : AW _ _ _ _)) | simp (disch := omega) only [go_sem, seval, reduceCtorEq, ↓reduceIte, beq_dec, Int.toNat_natCast, IntKind.signed, IntKind.bits] | (refine And.intro ?_ ?_; focus (first | (intros; omega) | (intros; simp_all; done))) | refine And.intro (?_ : CallAt _ _ _ _ _ _ _ _) ?_ | refine And.intro (?_ : CallAt _ _ _ _ _ _ _ _ ∧ _) ?_ | refine And.intro (?_ : AW _ _ _ _) ?_ | fail))
  | true =>
    have g38 := f38 n t
    rw [hv] at g38
    cases ho : isOrd o n with
    | false =>
      rw [ho] at g40
      (repeat' (first | refine NextAt.mk (fun hc => ?_) (fun pre n v post hc hkey => ?_) | refine Sni.mk (fun hc => ?_) ?_ | refine Both.mk ?_ ?_ | refine AW_seq ?_ | refine AW_block ?_ | ((first | refine AW_reg ?_ | refine AW_cond ?_ | refine AW_skip ?_ | refine AW_exit ?_ | refine AW_ret ?_ | refine AW_regD (by kernel_rfl) ?_ | refine AW_regX (by kernel_rfl) ?_ | refine CallAtG.t (Eq.refl true) ?_ | refine CallAtG.f (Eq.refl false) ?_ | refine CallAt.mk _ (g38 ..) (by first | (intro h; cases h; done) | (intro _; repeat' (first | exact List.forall_mem_nil _ | trivial | refine List.forall_mem_cons.2 ⟨?_, ?_⟩)) | (intro _; simp [RV.flatP, CD.flatP]; done)) ?_ | refine CallAtG.mk _ (fun _ => g38 ..) ?_ | refine CallDS.mk _ (by simp [RV.data]) (fun _ => g38 ..) (by first | (intro h; cases h; done) | (intro _; repeat' (first | exact List.forall_mem_nil _ | trivial | refine List.forall_mem_cons.2 ⟨?_, ?_⟩)) | (intro _; simp [RV.flatP, CD.flatP]; done)) ?_ | refine CallAt.mk _ (g40 ..) (by first | (intro h; cases h; done) | (intro _; repeat' (first | exact List.forall_mem_nil _ | trivial | refine List.forall_mem_cons.2 ⟨?_, ?_⟩)) | (intro _; simp [RV.flatP, CD.flatP]; done)) ?_ | refine CallAtG.mk _ (fun _ => g40 ..) ?_ | refine CallDS.mk _ (by simp [RV.data]) (fun _ => g40 ..) (by first | (intro h; cases h; done) | (intro _; repeat' (first | exact List.forall_mem_nil _ | trivial | refine List.forall_mem_cons.2 ⟨?_, ?_⟩)) | (intro _; simp [RV.flatP, CD.flatP]; done)) ?_); try simp (disch := omega) only [go_sem, seval, reduceCtorEq, ↓reduceIte, beq_dec, Int.toNat_natCast, IntKind.signed, IntKind.bits]) | refine And.intro (fun hc => (?_ : AW _ _ _ _)) (fun hc => (?_ : AW _ _ _ _)) | simp (disch := omega) only [go_sem, seval, reduceCtorEq, ↓reduceIte, beq_dec, Int.toNat_natCast, IntKind.signed, IntKind.bits] | (refine And.intro ?_ ?_; focus (first | (intros; omega) | (intros; simp_all; done))) | refine And.intro (?_ : CallAt _ _ _ _ _ _ _ _) ?_ | refine And.intro (?_ : CallAt _ _ _ _ _ _ _ _ ∧ _) ?_ | refine And.intro (?_ : AW _ _ _ _) ?_ | fail))
    | true =>
      rw [ho] at g40
      (repeat' (first | refine NextAt.mk (fun hc => ?_) (fun pre n v post hc hkey => ?_) | refine Sni.mk (fun hc => ?_) ?_ | refine Both.mk ?_ ?_ | refine AW_seq ?_ | refine AW_block ?_ | ((first | refine AW_reg ?_ | refine AW_cond ?_ | refine AW_skip ?_ | refine AW_exit ?_ | refine AW_ret ?_ | refine AW_regD (by kernel_rfl) ?_ | refine AW_regX (by kernel_rfl) ?_ | refine CallAtG.t (Eq.refl true) ?_ | refine CallAtG.f (Eq.refl false) ?_ | refine CallAt.mk _ (g38 ..) (by first | (intro h; cases h; done) | (intro _; repeat' (first | exact List.forall_mem_nil _ | trivial | refine List.forall_mem_cons.2 ⟨?_, ?_⟩)) | (intro _; simp [RV.flatP, CD.flatP]; done)) ?_ | refine CallAtG.mk _ (fun _ => g38 ..) ?_ | refine CallDS.mk _ (by simp [RV.data]) (fun _ => g38 ..) (by first | (intro h; cases h; done) | (intro _; repeat' (first | exact List.forall_mem_nil _ | trivial | refine List.forall_mem_cons.2 ⟨?_, ?_⟩)) | (intro _; simp [RV.flatP, CD.flatP]; done)) ?_ | refine CallAt.mk _ (g40 ..) (by first | (intro h; cases h; done) | (intro _; repeat' (first | exact List.forall_mem_nil _ | trivial | refine List.forall_mem_cons.2 ⟨?_, ?_⟩)) | (intro _; simp [RV.flatP, CD.flatP]; done)) ?_ | refine CallAtG.mk _ (fun _ => g40 ..) ?_ | refine CallDS.mk _ (by simp [RV.data]) (fun _ => g40 ..) (by first | (intro h; cases h; done) | (intro _; repeat' (first | exact List.forall_mem_nil _ | trivial | refine List.forall_mem_cons.2 ⟨?_, ?_⟩)) | (intro _; simp [RV.flatP, CD.flatP]; done)) ?_); try simp (disch := omega) only [go_sem, seval, reduceCtorEq, ↓reduceIte, beq_dec, Int.toNat_natCast, IntKind.signed, IntKind.bits]) | refine And.intro (fun hc => (?_ : AW _ _ _ _)) (fun hc => (?_ : AW _ _ _ _)) | simp (disch := omega) only [go_sem, seval, reduceCtorEq, ↓reduceIte, beq_dec, Int.toNat_natCast, IntKind.signed, IntKind.bits] | (refine And.intro ?_ ?_; focus (first | (intros; omega) | (intros; simp_all; done))) | refine And.intro (?_ : CallAt _ _ _ _ _ _ _ _) ?_ | refine And.intro (?_ : CallAt _ _ _ _ _ _ _ _ ∧ _) ?_ | refine And.intro (?_ : AW _ _ _ _) ?_ | fail))
theorem w19 (n : Int) (t : List (List Int)) (o : List Int) (hl : o.length ≤ 1000000) : FnR Try.prog 11 [.I n, .c (Tab t), .c (Row o)] [ORow (runsL n t o), .c (.I (runErr n t o))] := by
  have g33 := w33 n t o hl
  refine fn_walk code11 (by simp) ?_
  unfold runsL
  by_cases hr : runErr n t o = 0
  case neg =>
    simp only [if_neg hr]
    generalize runErr n t o = e at g33 hr
    (repeat' (first | refine NextAt.mk (fun hc => ?_) (fun pre n v post hc hkey => ?_) | refine Sni.mk (fun hc => ?_) ?_ | refine Both.mk ?_ ?_ | refine AW_seq ?_ | refine AW_block ?_ | ((first | refine AW_reg ?_ | refine AW_cond ?_ | refine AW_skip ?_ | refine AW_exit ?_ | refine AW_ret ?_ | refine AW_regD (by kernel_rfl) ?_ | refine AW_regX (by kernel_rfl) ?_ | refine CallAtG.t (Eq.refl true) ?_ | refine CallAtG.f (Eq.refl false) ?_ | refine CallAt.mk _ (g33 ..) (by first | (intro h; cases h; done) | (intro _; repeat' (first | exact List.forall_mem_nil _ | trivial | refine List.forall_mem_cons.2 ⟨?_, ?_⟩)) | (intro _; simp [RV.flatP, CD.flatP]; done)) ?_ | refine CallAtG.mk _ (fun _ => g33 ..) ?_ | refine CallDS.mk _ (by simp [RV.data]) (fun _ => g33 ..) (by first | (intro h; cases h; done) | (intro _; repeat' (first | exact List.forall_mem_nil _ | trivial | refine List.forall_mem_cons.2 ⟨?_, ?_⟩)) | (intro _; simp [RV.flatP, CD.flatP]; done)) ?_); try simp (disch := omega) only [go_sem, seval, reduceCtorEq, ↓reduceIte, beq_dec, Int.toNat_natCast, IntKind.signed, IntKind.bits]) | refine And.intro (fun hc => (?_ : AW _ _ _ _)) (fun hc => (?_ : AW _ _ _ _)) | simp (disch := omega) only [go_sem, seval, reduceCtorEq, ↓reduceIte, beq_dec, Int.toNat_natCast, IntKind.signed, IntKind.bits] | (refine And.intro ?_ ?_; focus (first | (intros; omega) | (intros; simp_all; done))) | refine And.intro (?_ : CallAt _ _ _ _ _ _ _ _) ?_ | refine And.intro (?_ : CallAt _ _ _ _ _ _ _ _ ∧ _) ?_ | refine And.intro (?_ : AW _ _ _ _) ?_ | fail))
    exact absurd (by assumption) hr
  case pos =>
    rw [hr] at g33
    simp only [hr, if_true]
    have ht : t.length ≤ 16 := by
      unfold runErr at hr
      split at hr
      · omega
      · rename_i hv
        exact (validT_of (by simpa using hv)).2.2.1
    (repeat' (first | refine NextAt.mk (fun hc => ?_) (fun pre n v post hc hkey => ?_) | refine Sni.mk (fun hc => ?_) ?_ | refine Both.mk ?_ ?_ | refine AW_seq ?_ | refine AW_block ?_ | ((first | refine AW_reg ?_ | refine AW_cond ?_ | refine AW_skip ?_ | refine AW_exit ?_ | refine AW_ret ?_ | refine AW_regD (by kernel_rfl) ?_ | refine AW_regX (by kernel_rfl) ?_ | refine CallAtG.t (Eq.refl true) ?_ | refine CallAtG.f (Eq.refl false) ?_ | refine CallAt.mk _ (g33 ..) (by first | (intro h; cases h; done) | (intro _; repeat' (first | exact List.forall_mem_nil _ | trivial | refine List.forall_mem_cons.2 ⟨?_, ?_⟩)) | (intro _; simp [RV.flatP, CD.flatP]; done)) ?_ | refine CallAtG.mk _ (fun _ => g33 ..) ?_ | refine CallDS.mk _ (by simp [RV.data]) (fun _ => g33 ..) (by first | (intro h; cases h; done) | (intro _; repeat' (first | exact List.forall_mem_nil _ | trivial | refine List.forall_mem_cons.2 ⟨?_, ?_⟩)) | (intro _; simp [RV.flatP, CD.flatP]; done)) ?_); try simp (disch := omega) only [go_sem, seval, reduceCtorEq, ↓reduceIte, beq_dec, Int.toNat_natCast, IntKind.signed, IntKind.bits]) | refine And.intro (fun hc => (?_ : AW _ _ _ _)) (fun hc => (?_ : AW _ _ _ _)) | simp (disch := omega) only [go_sem, seval, reduceCtorEq, ↓reduceIte, beq_dec, Int.toNat_natCast, IntKind.signed, IntKind.bits] | (refine And.intro ?_ ?_; focus (first | (intros; omega) | (intros; simp_all; done))) | refine And.intro (?_ : CallAt _ _ _ _ _ _ _ _) ?_ | refine And.intro (?_ : CallAt _ _ _ _ _ _ _ _ ∧ _) ?_ | refine And.intro (?_ : AW _ _ _ _) ?_ | fail))
    refine AW_nil 9 900 3 1 (by rfl) ?_
    refine AW_loopK [2, 19, 20] [9, 11, 21, 22, 23, 24, 25, 26, 27, 28, 29, 30, 31] (fun i : Nat => i ≤ t.length) (fun i => [(21, .I i), (9, .own 900)]) (fun i => [(900, .arr 3 1 (((t.take i).map fun r => ((runsN r o o.length : Nat) : Int)).map fun x => [CD.I x]))]) (fun i => t.length - i) 0 (by omega) ?_ ?_
    · simp (disch := omega) only [go_sem, seval, reduceCtorEq, ↓reduceIte, beq_dec, Int.toNat_natCast, IntKind.signed, IntKind.bits, Int.natCast_zero, List.take_zero, List.map_nil]
    · rintro i hi
      (repeat' (first | refine NextAt.mk (fun hc => ?_) (fun pre n v post hc hkey => ?_) | refine Sni.mk (fun hc => ?_) ?_ | refine Both.mk ?_ ?_ | refine AW_seq ?_ | refine AW_block ?_ | ((first | refine AW_reg ?_ | refine AW_cond ?_ | refine AW_skip ?_ | refine AW_exit ?_ | refine AW_ret ?_ | refine AW_regD (by kernel_rfl) ?_ | refine AW_regX (by kernel_rfl) ?_ | refine CallAtG.t (Eq.refl true) ?_ | refine CallAtG.f (Eq.refl false) ?_ | refine CallAt.mk _ (w34 ..) (by first | (intro h; cases h; done) | (intro _; repeat' (first | exact List.forall_mem_nil _ | trivial | refine List.forall_mem_cons.2 ⟨?_, ?_⟩)) | (intro _; simp [RV.flatP, CD.flatP, maxLen, getD_map (fun r : List Int => [Row r]), List.length_take]; done)) ?_ | refine CallAtG.mk _ (fun _ => w34 ..) ?_ | refine CallDS.mk _ (by simp [RV.data]) (fun _ => w34 ..) (by first | (intro h; cases h; done) | (intro _; repeat' (first | exact List.forall_mem_nil _ | trivial | refine List.forall_mem_cons.2 ⟨?_, ?_⟩)) | (intro _; simp [RV.flatP, CD.flatP, maxLen, getD_map (fun r : List Int => [Row r]), List.length_take]; done)) ?_); try simp (disch := omega) only [go_sem, seval, reduceCtorEq, ↓reduceIte, beq_dec, Int.toNat_natCast, IntKind.signed, IntKind.bits, maxLen, getD_map (fun r : List Int => [Row r]), List.length_take]) | refine And.intro (fun hc => (?_ : AW _ _ _ _)) (fun hc => (?_ : AW _ _ _ _)) | simp (disch := omega) only [go_sem, seval, reduceCtorEq, ↓reduceIte, beq_dec, Int.toNat_natCast, IntKind.signed, IntKind.bits, maxLen, getD_map (fun r : List Int => [Row r]), List.length_take] | (refine And.intro ?_ ?_; focus (first | (intros; omega) | (intros; simp_all; done))) | refine And.intro (?_ : CallAt _ _ _ _ _ _ _ _) ?_ | refine And.intro (?_ : CallAt _ _ _ _ _ _ _ _ ∧ _) ?_ | refine And.intro (?_ : AW _ _ _ _) ?_ | fail))
      · refine .mk (i + 1) (by omega) (by omega) ?_
        have e : t.take (i + 1) = t.take i ++ [nth t i] := by rw [List.take_succ_eq_append_getElem (by omega), nth_eq t i (by omega)]
        simp (disch := omega) only [go_sem, seval, reduceCtorEq, ↓reduceIte, beq_dec, Int.toNat_natCast, IntKind.signed, IntKind.bits, Int.natCast_add, Int.natCast_one, e, List.map_append]
      · rw [show i = t.length by omega, List.take_length]
end Go.Proofs.Ytddhinbiahcjlaa

-- P p_27s.txt
open Go Go.AL Go.RowKit
namespace Go.Proofs.Ytddhinbiahcjlaa
set_option maxRecDepth 20000

/-! ### the visitor that counts -/
theorem w30 (d : CD) (c : Int) (h : 0 ≤ c ∧ c ≤ 1000000000) : FnW Try.prog 24 [.c d, .ptr 1000006 0] [(1000006, .box 3 [.I c])] [.c (.B true)] [(1000006, .box 3 [.I (c + 1)])] [1000006] := by
  refine fn_walkW code24 (by simp) (by rfl) ?_
  (repeat' (first | refine NextAt.mk (fun hc => ?_) (fun pre n v post hc hkey => ?_) | refine Sni.mk (fun hc => ?_) ?_ | refine Both.mk ?_ ?_ | refine AW_seq ?_ | refine AW_block ?_ | ((first | refine AW_reg ?_ | refine AW_cond ?_ | refine AW_skip ?_ | refine AW_exit ?_ | refine AW_ret ?_ | refine AW_regD (by kernel_rfl) ?_ | refine AW_regX (by kernel_rfl) ?_ | refine CallAtG.t (Eq.refl true) ?_ | refine CallAtG.f (Eq.refl false) ?_); try simp (disch := omega) only [go_sem, seval, reduceCtorEq, ↓reduceIte, beq_dec, Int.toNat_natCast, IntKind.signed, IntKind.bits]) | refine And.intro (fun hc => (?_ : AW _ _ _ _)) (fun hc => (?_ : AW _ _ _ _)) | simp (disch := omega) only [go_sem, seval, reduceCtorEq, ↓reduceIte, beq_dec, Int.toNat_natCast, IntKind.signed, IntKind.bits] | (refine And.intro ?_ ?_; focus (first | (intros; omega) | (intros; simp_all; done))) | refine And.intro (?_ : CallAt _ _ _ _ _ _ _ _) ?_ | refine And.intro (?_ : CallAt _ _ _ _ _ _ _ _ ∧ _) ?_ | refine And.intro (?_ : AW _ _ _ _) ?_ | fail))
abbrev vC : AV := .fn 24 [.ptr 1000006 0]
theorem fm_len {f : Nat → List (List Int)} {p : Nat} (h : ∀ c, (f c).length ≤ p) : ∀ l : List Nat, (l.flatMap f).length ≤ l.length * p
  | [] => by simp
  | o :: l => by
    have h1 := fm_len h l
    have h2 := h o
    simp only [List.flatMap_cons, List.length_append, List.length_cons, Nat.add_mul, Nat.one_mul]
    omega
theorem walks_len {n : Nat} (hn : n ≤ 7) (t : List (List Int)) : ∀ (k : Nat) (b left : List Int), (walks n t k b left).length ≤ 7 ^ k
  | 0, b, left => by simp [walks]
  | k + 1, b, left => by
    rw [walks_succ]
    have h := fm_len (f := br n t k b left) (p := 7 ^ k) (fun c => by
      unfold br
      split
      · exact Nat.zero_le _
      · exact walks_len hn t k _ _) (List.range n)
    rw [List.length_range] at h
    have h2 : n * 7 ^ k ≤ 7 * 7 ^ k := Nat.mul_le_mul_right _ hn
    rw [Nat.pow_succ]
    omega
theorem br_len {n : Nat} (hn : n ≤ 7) (t : List (List Int)) (k : Nat) (b left : List Int) (c : Nat) : (br n t k b left c).length ≤ 7 ^ k := by
  unfold br
  split
  · exact Nat.zero_le _
  · exact walks_len hn t k _ _
theorem fm_range_succ (f : Nat → List (List Int)) (c : Nat) : ((List.range (c + 1)).flatMap f).length = ((List.range c).flatMap f).length + (f c).length := by
  rw [List.range_succ, List.flatMap_append]; simp
def sumL (n : Nat) (t : List (List Int)) (k : Nat) (b left : List Int) (c : Nat) : Nat := ((List.range c).flatMap (br n t k b left)).length
theorem sumL_succ (n : Nat) (t : List (List Int)) (k : Nat) (b left : List Int) (c : Nat) : sumL n t k b left (c + 1) = sumL n t k b left c + (br n t k b left c).length := fm_range_succ _ c
theorem sumL_zero (n : Nat) (t : List (List Int)) (k : Nat) (b left : List Int) : sumL n t k b left 0 = 0 := rfl
set_option maxHeartbeats 4000000 in
theorem w38 (n : Nat) (t : List (List Int)) : ∀ (k : Nat) (b left : List Int) (z : Nat), Wok n k t b left → z + 7 ^ k ≤ 10000000 → FnW Try.prog 36 [.I n, .c (Tab t), .c (Row b), .c (Row left), vC] [(1000006, .box 3 [.I z])]
    [.c (.B true)] [(1000006, .box 3 [.I ((z + (walks n t k b left).length : Nat) : Int)])] [1000006]
  | 0, b, left, z, ⟨hb, hn, ht, hr, hl, hv⟩, hz => by
    have g99 := w30 (Row b) z (by omega)
    have e : ((z + (walks n t 0 b left).length : Nat) : Int) = (z : Int) + 1 := by simp [walks]
    rw [e]
    refine fn_walkW code36 (by simp) (by rfl) ?_
    (repeat' (first | refine NextAt.mk (fun hc => ?_) (fun pre n v post hc hkey => ?_) | refine Sni.mk (fun hc => ?_) ?_ | refine Both.mk ?_ ?_ | refine AW_seq ?_ | refine AW_block ?_ | ((first | refine AW_reg ?_ | refine AW_cond ?_ | refine AW_skip ?_ | refine AW_exit ?_ | refine AW_ret ?_ | refine AW_regD (by kernel_rfl) ?_ | refine AW_regX (by kernel_rfl) ?_ | refine CallAt.mkW (g99 ..) (by rfl) (by simp (disch := omega) only [go_sem, seval, reduceCtorEq, ↓reduceIte, beq_dec, Int.toNat_natCast, IntKind.signed, IntKind.bits]) (by rfl) (by rfl) (by first | (intro h; cases h; done) | (intro _; simp [RV.flatP, CD.flatP, flatOb, AO.flatP]; done)) ?_ | refine CallAtG.t (Eq.refl true) ?_ | refine CallAtG.f (Eq.refl false) ?_); try simp (disch := omega) only [go_sem, seval, reduceCtorEq, ↓reduceIte, beq_dec, Int.toNat_natCast, IntKind.signed, IntKind.bits]) | refine And.intro (fun hc => (?_ : AW _ _ _ _)) (fun hc => (?_ : AW _ _ _ _)) | simp (disch := omega) only [go_sem, seval, reduceCtorEq, ↓reduceIte, beq_dec, Int.toNat_natCast, IntKind.signed, IntKind.bits] | (refine And.intro ?_ ?_; focus (first | (intros; omega) | (intros; simp_all; done))) | refine And.intro (?_ : CallAt _ _ _ _ _ _ _ _) ?_ | refine And.intro (?_ : CallAt _ _ _ _ _ _ _ _ ∧ _) ?_ | refine And.intro (?_ : AW _ _ _ _) ?_ | fail))
    omega
  | k + 1, b, left, z, ⟨hb, hn, ht, hr, hl, hv⟩, hz => by
    have ih := w38 n t k
    have g96 := f96 left (by omega)
    have g96b := f96 b (by omega)
    have hpw : 7 ^ (k + 1) = 7 ^ k * 7 := Nat.pow_succ 7 k
    have hbl := br_len hn t k b left
    have hfl : ∀ c, c ≤ n → sumL n t k b left c ≤ c * 7 ^ k := fun c _ => by
      have := fm_len hbl (List.range c)
      rw [List.length_range] at this
      exact this
    have hc7 : ∀ c, c < n → c * 7 ^ k + 7 ^ k ≤ 7 ^ k * 7 := fun c hc => by
      have : (c + 1) * 7 ^ k ≤ 7 * 7 ^ k := Nat.mul_le_mul_right _ (by omega)
      rw [Nat.add_mul, Nat.one_mul] at this
      omega
    refine fn_walkW code36 (by simp) (by rfl) ?_
    (repeat' (first | refine NextAt.mk (fun hc => ?_) (fun pre n v post hc hkey => ?_) | refine Sni.mk (fun hc => ?_) ?_ | refine Both.mk ?_ ?_ | refine AW_seq ?_ | refine AW_block ?_ | ((first | refine AW_reg ?_ | refine AW_cond ?_ | refine AW_skip ?_ | refine AW_exit ?_ | refine AW_ret ?_ | refine AW_regD (by kernel_rfl) ?_ | refine AW_regX (by kernel_rfl) ?_ | refine CallAtG.t (Eq.refl true) ?_ | refine CallAtG.f (Eq.refl false) ?_); try simp (disch := omega) only [go_sem, seval, reduceCtorEq, ↓reduceIte, beq_dec, Int.toNat_natCast, IntKind.signed, IntKind.bits]) | refine And.intro (fun hc => (?_ : AW _ _ _ _)) (fun hc => (?_ : AW _ _ _ _)) | simp (disch := omega) only [go_sem, seval, reduceCtorEq, ↓reduceIte, beq_dec, Int.toNat_natCast, IntKind.signed, IntKind.bits] | (refine And.intro ?_ ?_; focus (first | (intros; omega) | (intros; simp_all; done))) | refine And.intro (?_ : CallAt _ _ _ _ _ _ _ _) ?_ | refine And.intro (?_ : CallAt _ _ _ _ _ _ _ _ ∧ _) ?_ | refine And.intro (?_ : AW _ _ _ _) ?_ | fail))
    · omega
    rw [walks_succ]
    refine AW_loopK [0, 1, 2, 3, 4, 23] [10, 11, 12, 13, 14, 15, 24, 25, 26, 27, 28, 29, 30, 31, 32, 33, 34, 35, 36, 37, 38, 39, 40, 41, 42, 43, 44, 45, 46, 47, 48, 49, 50, 51, 52, 53, 54, 55, 56, 57, 58, 59, 60, 61, 62, 63, 64, 65, 66, 67, 68, 69, 70, 71, 72, 73, 74, 75, 76, 77] (fun c : Nat => c ≤ n) (fun c => [(24, .I c)]) (fun c => [(1000006, .box 3 [.I ((z + sumL n t k b left c : Nat) : Int)])]) (fun c => n - c) 0 (by omega) ?_ ?_
    · simp (disch := omega) only [go_sem, seval, reduceCtorEq, ↓reduceIte, beq_dec, Int.toNat_natCast, IntKind.signed, IntKind.bits, Int.natCast_zero, sumL_zero, Nat.add_zero]
    · rintro c hc
      have hfc := hfl c hc
      have hcc := hc7 c
      have hss := sumL_succ n t k b left c
      (repeat' (first | refine NextAt.mk (fun hc => ?_) (fun pre n v post hc hkey => ?_) | refine Sni.mk (fun hc => ?_) ?_ | refine Both.mk ?_ ?_ | refine AW_seq ?_ | refine AW_block ?_ | ((first | refine AW_reg ?_ | refine AW_cond ?_ | refine AW_skip ?_ | refine AW_exit ?_ | refine AW_ret ?_ | refine AW_regD (by kernel_rfl) ?_ | refine AW_regX (by kernel_rfl) ?_ | refine CallAtG.t (Eq.refl true) ?_ | refine CallAtG.f (Eq.refl false) ?_ | refine CallAt.mk _ (f116 ..) (by first | (intro h; cases h; done) | (intro _; repeat' (first | exact List.forall_mem_nil _ | trivial | refine List.forall_mem_cons.2 ⟨?_, ?_⟩)) | (intro _; simp [RV.flatP, CD.flatP]; done)) ?_ | refine CallAtG.mk _ (fun _ => f116 ..) ?_ | refine CallDS.mk _ (by simp [RV.data]) (fun _ => f116 ..) (by first | (intro h; cases h; done) | (intro _; repeat' (first | exact List.forall_mem_nil _ | trivial | refine List.forall_mem_cons.2 ⟨?_, ?_⟩)) | (intro _; simp [RV.flatP, CD.flatP]; done)) ?_ | refine CallAt.mk _ (g96 ..) (by first | (intro h; cases h; done) | (intro _; repeat' (first | exact List.forall_mem_nil _ | trivial | refine List.forall_mem_cons.2 ⟨?_, ?_⟩)) | (intro _; simp [RV.flatP, CD.flatP]; done)) ?_ | refine CallAtG.mk _ (fun _ => g96 ..) ?_ | refine CallDS.mk _ (by simp [RV.data]) (fun _ => g96 ..) (by first | (intro h; cases h; done) | (intro _; repeat' (first | exact List.forall_mem_nil _ | trivial | refine List.forall_mem_cons.2 ⟨?_, ?_⟩)) | (intro _; simp [RV.flatP, CD.flatP]; done)) ?_); try simp (disch := omega) only [go_sem, seval, reduceCtorEq, ↓reduceIte, beq_dec, Int.toNat_natCast, IntKind.signed, IntKind.bits]) | refine And.intro (fun hc => (?_ : AW _ _ _ _)) (fun hc => (?_ : AW _ _ _ _)) | simp (disch := omega) only [go_sem, seval, reduceCtorEq, ↓reduceIte, beq_dec, Int.toNat_natCast, IntKind.signed, IntKind.bits] | (refine And.intro ?_ ?_; focus (first | (intros; omega) | (intros; simp_all; done))) | refine And.intro (?_ : CallAt _ _ _ _ _ _ _ _) ?_ | refine And.intro (?_ : CallAt _ _ _ _ _ _ _ _ ∧ _) ?_ | refine And.intro (?_ : AW _ _ _ _) ?_ | fail))
      · -- the column stands already
        refine .mk (c + 1) (by omega) (by omega) ?_
        have e : br n t k b left c = [] := by unfold br; rw [if_pos (.inl (by assumption))]
        rw [e, List.length_nil, Nat.add_zero] at hss
        simp (disch := omega) only [go_sem, seval, reduceCtorEq, ↓reduceIte, beq_dec, Int.toNat_natCast, IntKind.signed, IntKind.bits, Int.natCast_add, Int.natCast_one, hss]
      · refine AW_loopK [0, 1, 2, 3, 4, 11, 12, 23, 24, 32, 33] [13, 14, 15, 34, 35, 36, 37, 38, 39, 40, 41, 42, 43, 44, 45, 46, 47, 48, 49, 50, 51, 52, 53, 54, 55, 56, 57, 58, 59, 60, 61, 62] (fun i : Nat => i ≤ t.length) (fun i => [(34, .I i), (12, .own 31), (13, .B (fitsB t left c i))]) (fun i => [(31, .arr 3 1 ((nextL t left c i).map fun x => [CD.I x]))]) (fun i => t.length - i) 0 (by omega) ?_ ?_
        · simp (disch := omega) only [go_sem, seval, reduceCtorEq, ↓reduceIte, beq_dec, Int.toNat_natCast, IntKind.signed, IntKind.bits, Int.natCast_zero, nextL_zero]
          simp [fitsB]
        · intro i hi
          have hvi := hv i
          have hnl := nextL_len t left c i
          have e0 : i < left.length → nth (nextL t left c i) i = nth left i := fun h => by rw [nextL_nth t left c i i h]; simp
          (repeat' (first | refine NextAt.mk (fun hc => ?_) (fun pre n v post hc hkey => ?_) | refine Sni.mk (fun hc => ?_) ?_ | refine Both.mk ?_ ?_ | refine AW_seq ?_ | refine AW_block ?_ | ((first | refine AW_reg ?_ | refine AW_cond ?_ | refine AW_skip ?_ | refine AW_exit ?_ | refine AW_ret ?_ | refine AW_regD (by kernel_rfl) ?_ | refine AW_regX (by kernel_rfl) ?_ | refine CallAtG.t (Eq.refl true) ?_ | refine CallAtG.f (Eq.refl false) ?_ | refine CallAt.mk _ (f116 ..) (by first | (intro h; cases h; done) | (intro _; repeat' (first | exact List.forall_mem_nil _ | trivial | refine List.forall_mem_cons.2 ⟨?_, ?_⟩)) | (intro _; simp [RV.flatP, CD.flatP, getD_map (fun r : List Int => [Row r]), getD_map (fun x : Int => [CD.I x]), nextL_len, hl, e0]; done)) ?_ | refine CallAtG.mk _ (fun _ => f116 ..) ?_ | refine CallDS.mk _ (by simp [RV.data]) (fun _ => f116 ..) (by first | (intro h; cases h; done) | (intro _; repeat' (first | exact List.forall_mem_nil _ | trivial | refine List.forall_mem_cons.2 ⟨?_, ?_⟩)) | (intro _; simp [RV.flatP, CD.flatP, getD_map (fun r : List Int => [Row r]), getD_map (fun x : Int => [CD.I x]), nextL_len, hl, e0]; done)) ?_); try simp (disch := omega) only [go_sem, seval, reduceCtorEq, ↓reduceIte, beq_dec, Int.toNat_natCast, IntKind.signed, IntKind.bits, getD_map (fun r : List Int => [Row r]), getD_map (fun x : Int => [CD.I x]), nextL_len, hl, e0]) | refine And.intro (fun hc => (?_ : AW _ _ _ _)) (fun hc => (?_ : AW _ _ _ _)) | simp (disch := omega) only [go_sem, seval, reduceCtorEq, ↓reduceIte, beq_dec, Int.toNat_natCast, IntKind.signed, IntKind.bits, getD_map (fun r : List Int => [Row r]), getD_map (fun x : Int => [CD.I x]), nextL_len, hl, e0] | (refine And.intro ?_ ?_; focus (first | (intros; omega) | (intros; simp_all; done))) | refine And.intro (?_ : CallAt _ _ _ _ _ _ _ _) ?_ | refine And.intro (?_ : CallAt _ _ _ _ _ _ _ _ ∧ _) ?_ | refine And.intro (?_ : AW _ _ _ _) ?_ | fail))
          · refine .mk (i + 1) (by omega) (by omega) ?_
            have e1 : fitsB t left c (i + 1) = fitsB t left c i := by rw [fitsB_succ]; simp_all
            simp (disch := omega) only [go_sem, seval, reduceCtorEq, ↓reduceIte, beq_dec, Int.toNat_natCast, IntKind.signed, IntKind.bits, Int.natCast_add, Int.natCast_one, e1, nextL_in t left c i (by omega) (by assumption), List.map_set]
          · refine .mk (i + 1) (by omega) (by omega) ?_
            have e1 : fitsB t left c (i + 1) = false := by rw [fitsB_succ]; simp_all
            simp (disch := omega) only [go_sem, seval, reduceCtorEq, ↓reduceIte, beq_dec, Int.toNat_natCast, IntKind.signed, IntKind.bits, Int.natCast_add, Int.natCast_one, e1, nextL_out t left c i (by assumption)]
          · refine .mk (i + 1) (by omega) (by omega) ?_
            have e1 : fitsB t left c (i + 1) = fitsB t left c i := by rw [fitsB_succ]; simp_all
            simp (disch := omega) only [go_sem, seval, reduceCtorEq, ↓reduceIte, beq_dec, Int.toNat_natCast, IntKind.signed, IntKind.bits, Int.natCast_add, Int.natCast_one, e1, nextL_out t left c i (by assumption)]
          · have hi' : i = t.length := by omega
            subst hi'
            cases hf : fitsB t left c t.length with
            | false =>
              (repeat' (first | refine NextAt.mk (fun hc => ?_) (fun pre n v post hc hkey => ?_) | refine Sni.mk (fun hc => ?_) ?_ | refine Both.mk ?_ ?_ | refine AW_seq ?_ | refine AW_block ?_ | ((first | refine AW_reg ?_ | refine AW_cond ?_ | refine AW_skip ?_ | refine AW_exit ?_ | refine AW_ret ?_ | refine AW_regD (by kernel_rfl) ?_ | refine AW_regX (by kernel_rfl) ?_ | refine CallAtG.t (Eq.refl true) ?_ | refine CallAtG.f (Eq.refl false) ?_); try simp (disch := omega) only [go_sem, seval, reduceCtorEq, ↓reduceIte, beq_dec, Int.toNat_natCast, IntKind.signed, IntKind.bits]) | refine And.intro (fun hc => (?_ : AW _ _ _ _)) (fun hc => (?_ : AW _ _ _ _)) | simp (disch := omega) only [go_sem, seval, reduceCtorEq, ↓reduceIte, beq_dec, Int.toNat_natCast, IntKind.signed, IntKind.bits] | (refine And.intro ?_ ?_; focus (first | (intros; omega) | (intros; simp_all; done))) | refine And.intro (?_ : CallAt _ _ _ _ _ _ _ _) ?_ | refine And.intro (?_ : CallAt _ _ _ _ _ _ _ _ ∧ _) ?_ | refine And.intro (?_ : AW _ _ _ _) ?_ | fail))
              refine .mk (c + 1) (by omega) (by omega) ?_
              have e : br n t k b left c = [] := by unfold br; rw [if_pos (.inr hf)]
              rw [e, List.length_nil, Nat.add_zero] at hss
              simp (disch := omega) only [go_sem, seval, reduceCtorEq, ↓reduceIte, beq_dec, Int.toNat_natCast, IntKind.signed, IntKind.bits, Int.natCast_add, Int.natCast_one, hss]
            | true =>
              have hbrc : br n t k b left c = walks n t k (b ++ [(c : Int)]) (nextL t left c t.length) := by
                unfold br; rw [if_neg]; rw [hf]; simp; assumption
              have g := ih (b ++ [(c : Int)]) (nextL t left c t.length) (z + sumL n t k b left c) ⟨by simp; omega, hn, ht, hr, by omega, fun i hi => by
                rw [nextL_nth t left c _ i (by omega)]
                have := hv i hi
                split <;> omega⟩ (by have := hcc (by omega); omega)
              simp only [Row, List.map_append, List.map_cons, List.map_nil] at g
              rw [← hbrc, Nat.add_assoc, ← hss] at g
              (repeat' (first | refine NextAt.mk (fun hc => ?_) (fun pre n v post hc hkey => ?_) | refine Sni.mk (fun hc => ?_) ?_ | refine Both.mk ?_ ?_ | refine AW_seq ?_ | refine AW_block ?_ | ((first | refine AW_reg ?_ | refine AW_cond ?_ | refine AW_skip ?_ | refine AW_exit ?_ | refine AW_ret ?_ | refine AW_regD (by kernel_rfl) ?_ | refine AW_regX (by kernel_rfl) ?_ | refine CallAtG.t (Eq.refl true) ?_ | refine CallAtG.f (Eq.refl false) ?_ | refine CallAt.mk _ (g96b ..) (by first | (intro h; cases h; done) | (intro _; repeat' (first | exact List.forall_mem_nil _ | trivial | refine List.forall_mem_cons.2 ⟨?_, ?_⟩)) | (intro _; simp [RV.flatP, CD.flatP, maxLen]; done)) ?_ | refine CallAtG.mk _ (fun _ => g96b ..) ?_ | refine CallDS.mk _ (by simp [RV.data]) (fun _ => g96b ..) (by first | (intro h; cases h; done) | (intro _; repeat' (first | exact List.forall_mem_nil _ | trivial | refine List.forall_mem_cons.2 ⟨?_, ?_⟩)) | (intro _; simp [RV.flatP, CD.flatP, maxLen]; done)) ?_); try simp (disch := omega) only [go_sem, seval, reduceCtorEq, ↓reduceIte, beq_dec, Int.toNat_natCast, IntKind.signed, IntKind.bits, maxLen]) | refine And.intro (fun hc => (?_ : AW _ _ _ _)) (fun hc => (?_ : AW _ _ _ _)) | simp (disch := omega) only [go_sem, seval, reduceCtorEq, ↓reduceIte, beq_dec, Int.toNat_natCast, IntKind.signed, IntKind.bits, maxLen] | (refine And.intro ?_ ?_; focus (first | (intros; omega) | (intros; simp_all; done))) | refine And.intro (?_ : CallAt _ _ _ _ _ _ _ _) ?_ | refine And.intro (?_ : CallAt _ _ _ _ _ _ _ _ ∧ _) ?_ | refine And.intro (?_ : AW _ _ _ _) ?_ | fail))
              refine CallAt.frz [31, 68] ?_
              simp (disch := omega) only [go_sem, seval, reduceCtorEq, ↓reduceIte, beq_dec, Int.toNat_natCast, IntKind.signed, IntKind.bits]
              (repeat' (first | refine NextAt.mk (fun hc => ?_) (fun pre n v post hc hkey => ?_) | refine Sni.mk (fun hc => ?_) ?_ | refine Both.mk ?_ ?_ | refine AW_seq ?_ | refine AW_block ?_ | ((first | refine AW_reg ?_ | refine AW_cond ?_ | refine AW_skip ?_ | refine AW_exit ?_ | refine AW_ret ?_ | refine AW_regD (by kernel_rfl) ?_ | refine AW_regX (by kernel_rfl) ?_ | refine CallAt.mkW (g ..) (by rfl) (by simp (disch := omega) only [go_sem, seval, reduceCtorEq, ↓reduceIte, beq_dec, Int.toNat_natCast, IntKind.signed, IntKind.bits]) (by rfl) (by rfl) (by first | (intro h; cases h; done) | (intro _; simp [RV.flatP, CD.flatP, flatOb, AO.flatP]; done)) ?_ | refine CallAtG.t (Eq.refl true) ?_ | refine CallAtG.f (Eq.refl false) ?_); try simp (disch := omega) only [go_sem, seval, reduceCtorEq, ↓reduceIte, beq_dec, Int.toNat_natCast, IntKind.signed, IntKind.bits]) | refine And.intro (fun hc => (?_ : AW _ _ _ _)) (fun hc => (?_ : AW _ _ _ _)) | simp (disch := omega) only [go_sem, seval, reduceCtorEq, ↓reduceIte, beq_dec, Int.toNat_natCast, IntKind.signed, IntKind.bits] | (refine And.intro ?_ ?_; focus (first | (intros; omega) | (intros; simp_all; done))) | refine And.intro (?_ : CallAt _ _ _ _ _ _ _ _) ?_ | refine And.intro (?_ : CallAt _ _ _ _ _ _ _ _ ∧ _) ?_ | refine And.intro (?_ : AW _ _ _ _) ?_ | fail))
              refine .mk (c + 1) (by omega) (by omega) ?_
              simp (disch := omega) only [go_sem, seval, reduceCtorEq, ↓reduceIte, beq_dec, Int.toNat_natCast, IntKind.signed, IntKind.bits, Int.natCast_add, Int.natCast_one]
      · rw [show c = n by omega]
        rfl
theorem w29 (n : Int) (t : List (List Int)) (h : validT n t = true) : FnW Try.prog 22 [.I n, .c (Tab t), vC] [(1000006, .box 3 [.I 0])]
    [] [(1000006, .box 3 [.I (((walks n.toNat t n.toNat [] (t.map fun r => (r.length : Int))).length : Nat) : Int)])] [1000006] := by
  obtain ⟨h1, h2, h3, h4⟩ := tab_ok h
  obtain ⟨m, rfl⟩ : ∃ m : Nat, n = m := ⟨n.toNat, by omega⟩
  simp only [Int.toNat_natCast]
  have hnth : ∀ i, i < t.length → nth (t.map fun r => (r.length : Int)) i = ((nth t i).length : Int) := fun i hi => by
    rw [nth_eq _ i (by simpa using hi), nth_eq _ i hi]; simp
  have hp7 : 7 ^ m ≤ 7 ^ 7 := Nat.pow_le_pow_right (by omega) (by omega)
  have hpw : (7 : Nat) ^ 7 = 823543 := by decide
  have g130 := w38 m t m [] (t.map fun r => (r.length : Int)) 0 ⟨by simp, by omega, h3, fun i hi => by have := h4 i hi; omega, by simp, fun i hi => by
    rw [hnth i hi]
    have := h4 i hi
    omega⟩ (by omega)
  simp only [Nat.zero_add, Int.natCast_zero] at g130
  refine fn_walkW code22 (by simp) (by rfl) ?_
  (repeat' (first | refine NextAt.mk (fun hc => ?_) (fun pre n v post hc hkey => ?_) | refine Sni.mk (fun hc => ?_) ?_ | refine Both.mk ?_ ?_ | refine AW_seq ?_ | refine AW_block ?_ | ((first | refine AW_reg ?_ | refine AW_cond ?_ | refine AW_skip ?_ | refine AW_exit ?_ | refine AW_ret ?_ | refine AW_regD (by kernel_rfl) ?_ | refine AW_regX (by kernel_rfl) ?_ | refine CallAtG.t (Eq.refl true) ?_ | refine CallAtG.f (Eq.refl false) ?_); try simp (disch := omega) only [go_sem, seval, reduceCtorEq, ↓reduceIte, beq_dec, Int.toNat_natCast, IntKind.signed, IntKind.bits]) | refine And.intro (fun hc => (?_ : AW _ _ _ _)) (fun hc => (?_ : AW _ _ _ _)) | simp (disch := omega) only [go_sem, seval, reduceCtorEq, ↓reduceIte, beq_dec, Int.toNat_natCast, IntKind.signed, IntKind.bits] | (refine And.intro ?_ ?_; focus (first | (intros; omega) | (intros; simp_all; done))) | refine And.intro (?_ : CallAt _ _ _ _ _ _ _ _) ?_ | refine And.intro (?_ : CallAt _ _ _ _ _ _ _ _ ∧ _) ?_ | refine And.intro (?_ : AW _ _ _ _) ?_ | fail))
  refine AW_nil 6 900 3 1 (by rfl) ?_
  refine AW_loopK [0, 1, 2, 9, 10] [6, 8, 11, 12, 13, 14, 15, 16, 17, 18, 19, 20] (fun i : Nat => i ≤ t.length) (fun i => [(11, .I i), (6, .own 900)]) (fun i => [(900, .arr 3 1 (((t.take i).map fun r => (r.length : Int)).map fun x => [CD.I x]))]) (fun i => t.length - i) 0 (by omega) ?_ ?_
  · simp (disch := omega) only [go_sem, seval, reduceCtorEq, ↓reduceIte, beq_dec, Int.toNat_natCast, IntKind.signed, IntKind.bits, Int.natCast_zero]
  · intro i hi
    (repeat' (first | refine NextAt.mk (fun hc => ?_) (fun pre n v post hc hkey => ?_) | refine Sni.mk (fun hc => ?_) ?_ | refine Both.mk ?_ ?_ | refine AW_seq ?_ | refine AW_block ?_ | ((first | refine AW_reg ?_ | refine AW_cond ?_ | refine AW_skip ?_ | refine AW_exit ?_ | refine AW_ret ?_ | refine AW_regD (by kernel_rfl) ?_ | refine AW_regX (by kernel_rfl) ?_ | refine CallAtG.t (Eq.refl true) ?_ | refine CallAtG.f (Eq.refl false) ?_); try simp (disch := omega) only [go_sem, seval, reduceCtorEq, ↓reduceIte, beq_dec, Int.toNat_natCast, IntKind.signed, IntKind.bits, maxLen, getD_map (fun r : List Int => [Row r]), List.length_take]) | refine And.intro (fun hc => (?_ : AW _ _ _ _)) (fun hc => (?_ : AW _ _ _ _)) | simp (disch := omega) only [go_sem, seval, reduceCtorEq, ↓reduceIte, beq_dec, Int.toNat_natCast, IntKind.signed, IntKind.bits, maxLen, getD_map (fun r : List Int => [Row r]), List.length_take] | (refine And.intro ?_ ?_; focus (first | (intros; omega) | (intros; simp_all; done))) | refine And.intro (?_ : CallAt _ _ _ _ _ _ _ _) ?_ | refine And.intro (?_ : CallAt _ _ _ _ _ _ _ _ ∧ _) ?_ | refine And.intro (?_ : AW _ _ _ _) ?_ | fail))
    · refine .mk (i + 1) (by omega) (by omega) ?_
      have e : t.take (i + 1) = t.take i ++ [nth t i] := by rw [List.take_succ_eq_append_getElem (by omega), nth_eq t i (by omega)]
      simp (disch := omega) only [go_sem, seval, reduceCtorEq, ↓reduceIte, beq_dec, Int.toNat_natCast, IntKind.signed, IntKind.bits, Int.natCast_add, Int.natCast_one, e, List.map_append]
    · have hi' : i = t.length := by omega
      subst hi'
      refine CallAt.frz [900] ?_
      have g := FnW.nil (pre := [_, _]) (post := [_, _]) g130
      simp only [List.cons_append, List.nil_append] at g
      simp only [List.take_length]
      (repeat' (first | refine NextAt.mk (fun hc => ?_) (fun pre n v post hc hkey => ?_) | refine Sni.mk (fun hc => ?_) ?_ | refine Both.mk ?_ ?_ | refine AW_seq ?_ | refine AW_block ?_ | ((first | refine AW_reg ?_ | refine AW_cond ?_ | refine AW_skip ?_ | refine AW_exit ?_ | refine AW_ret ?_ | refine AW_regD (by kernel_rfl) ?_ | refine AW_regX (by kernel_rfl) ?_ | refine CallAt.mkW (g ..) (by rfl) (by simp (disch := omega) only [go_sem, seval, reduceCtorEq, ↓reduceIte, beq_dec, Int.toNat_natCast, IntKind.signed, IntKind.bits]) (by rfl) (by rfl) (by first | (intro h; cases h; done) | (intro _; simp [RV.flatP, CD.flatP, flatOb, AO.flatP]; done)) ?_ | refine CallAtG.t (Eq.refl true) ?_ | refine CallAtG.f (Eq.refl false) ?_); try simp (disch := omega) only [go_sem, seval, reduceCtorEq, ↓reduceIte, beq_dec, Int.toNat_natCast, IntKind.signed, IntKind.bits]) | refine And.intro (fun hc => (?_ : AW _ _ _ _)) (fun hc => (?_ : AW _ _ _ _)) | simp (disch := omega) only [go_sem, seval, reduceCtorEq, ↓reduceIte, beq_dec, Int.toNat_natCast, IntKind.signed, IntKind.bits] | (refine And.intro ?_ ?_; focus (first | (intros; omega) | (intros; simp_all; done))) | refine And.intro (?_ : CallAt _ _ _ _ _ _ _ _) ?_ | refine And.intro (?_ : CallAt _ _ _ _ _ _ _ _ ∧ _) ?_ | refine And.intro (?_ : AW _ _ _ _) ?_ | fail))
def cntV (n : Int) (t : List (List Int)) : Int := ((ords n t).length : Nat)
def valE (n : Int) (t : List (List Int)) : Int := if validT n t = true then 0 else 1
theorem w11 (n : Int) (t : List (List Int)) : FnR Try.prog 10 [.I n, .c (Tab t)] [.c (.I (cntV n t)), .c (.I (valE n t))] := by
  refine fn_walk code10 (by simp) ?_
  have g38 := f38 n t
  unfold cntV valE ords
  cases hv : validT n t with
  | false =>
    rw [hv] at g38
    simp only [Bool.false_eq_true, if_false]
    (repeat' (first | refine NextAt.mk (fun hc => ?_) (fun pre n v post hc hkey => ?_) | refine Sni.mk (fun hc => ?_) ?_ | refine Both.mk ?_ ?_ | refine AW_seq ?_ | refine AW_block ?_ | ((first | refine AW_reg ?_ | refine AW_cond ?_ | refine AW_skip ?_ | refine AW_exit ?_ | refine AW_ret ?_ | refine AW_regD (by kernel_rfl) ?_ | refine AW_regX (by kernel_rfl) ?_ | refine CallAtG.t (Eq.refl true) ?_ | refine CallAtG.f (Eq.refl false) ?_ | refine CallAt.mk _ (g38 ..) (by first | (intro h; cases h; done) | (intro _; repeat' (first | exact List.forall_mem_nil _ | trivial | refine List.forall_mem_cons.2 ⟨?_, ?_⟩)) | (intro _; simp [RV.flatP, CD.flatP]; done)) ?_ | refine CallAtG.mk _ (fun _ => g38 ..) ?_ | refine CallDS.mk _ (by simp [RV.data]) (fun _ => g38 ..) (by first | (intro h; cases h; done) | (intro _; repeat' (first | exact List.forall_mem_nil _ | trivial | refine List.forall_mem_cons.2 ⟨?_, ?_⟩)) | (intro _; simp [RV.flatP, CD.flatP]; done)) ?_); try simp (disch := omega) only [go_sem, seval, reduceCtorEq, ↓reduceIte, beq_dec, Int.toNat_natCast, IntKind.signed, IntKind.bits]) | refine And.intro (fun hc => (?_ : AW _ _ _ _)) (fun hc => (?_ : AW _ _ _ _)) | simp (disch := omega) only [go_sem, seval, reduceCtorEq, ↓reduceIte, beq_dec, Int.toNat_natCast, IntKind.signed, IntKind.bits] | (refine And.intro ?_ ?_; focus (first | (intros; omega) | (intros; simp_all; done))) | refine And.intro (?_ : CallAt _ _ _ _ _ _ _ _) ?_ | refine And.intro (?_ : CallAt _ _ _ _ _ _ _ _ ∧ _) ?_ | refine And.intro (?_ : AW _ _ _ _) ?_ | fail))
    all_goals rfl
  | true =>
    rw [hv] at g38
    have g := FnW.low (w29 n t hv)
    simp only [renL, AV.ren, renOb, AO.ren, List.map_cons, List.map_nil, rn6] at g
    simp only [if_true]
    generalize walks n.toNat t n.toNat [] (t.map fun r => (r.length : Int)) = W at g
    (repeat' (first | refine NextAt.mk (fun hc => ?_) (fun pre n v post hc hkey => ?_) | refine Sni.mk (fun hc => ?_) ?_ | refine Both.mk ?_ ?_ | refine AW_seq ?_ | refine AW_block ?_ | ((first | refine AW_reg ?_ | refine AW_cond ?_ | refine AW_skip ?_ | refine AW_exit ?_ | refine AW_ret ?_ | refine AW_regD (by kernel_rfl) ?_ | refine AW_regX (by kernel_rfl) ?_ | refine CallAt.mkW (g ..) (by rfl) (by simp (disch := omega) only [go_sem, seval, reduceCtorEq, ↓reduceIte, beq_dec, Int.toNat_natCast, IntKind.signed, IntKind.bits]) (by rfl) (by rfl) (by first | (intro h; cases h; done) | (intro _; simp [RV.flatP, CD.flatP, flatOb, AO.flatP]; done)) ?_ | refine CallAtG.t (Eq.refl true) ?_ | refine CallAtG.f (Eq.refl false) ?_ | refine CallAt.mk _ (g38 ..) (by first | (intro h; cases h; done) | (intro _; repeat' (first | exact List.forall_mem_nil _ | trivial | refine List.forall_mem_cons.2 ⟨?_, ?_⟩)) | (intro _; simp [RV.flatP, CD.flatP]; done)) ?_ | refine CallAtG.mk _ (fun _ => g38 ..) ?_ | refine CallDS.mk _ (by simp [RV.data]) (fun _ => g38 ..) (by first | (intro h; cases h; done) | (intro _; repeat' (first | exact List.forall_mem_nil _ | trivial | refine List.forall_mem_cons.2 ⟨?_, ?_⟩)) | (intro _; simp [RV.flatP, CD.flatP]; done)) ?_); try simp (disch := omega) only [go_sem, seval, reduceCtorEq, ↓reduceIte, beq_dec, Int.toNat_natCast, IntKind.signed, IntKind.bits]) | refine And.intro (fun hc => (?_ : AW _ _ _ _)) (fun hc => (?_ : AW _ _ _ _)) | simp (disch := omega) only [go_sem, seval, reduceCtorEq, ↓reduceIte, beq_dec, Int.toNat_natCast, IntKind.signed, IntKind.bits] | (refine And.intro ?_ ?_; focus (first | (intros; omega) | (intros; simp_all; done))) | refine And.intro (?_ : CallAt _ _ _ _ _ _ _ _) ?_ | refine And.intro (?_ : CallAt _ _ _ _ _ _ _ _ ∧ _) ?_ | refine And.intro (?_ : AW _ _ _ _) ?_ | fail))
/-! ### the reference's -/
/-! ### the law's copy -/
end Go.Proofs.Ytddhinbiahcjlaa

-- P p_27s.txt
open Go Go.AL Go.RowKit
namespace Go.Proofs.Ytddhinbiahcjlaa
set_option maxRecDepth 20000

def awT : List (List Int) := [[0, 2], [2, 3], [1]]
theorem aw1 : fo (ords 4 awT) = Row [0, 2, 3, 1] := by rfl
theorem aw2 : firstE 4 awT = 0 := by decide +kernel
theorem aw3 : cntV 4 awT = 4 := by decide +kernel
theorem aw4 : valE 4 awT = 0 := by decide +kernel
theorem aw5 : runsL 4 awT [0, 1, 2, 3] = [2, 1, 1] := by decide +kernel
theorem aw6 : runErr 4 awT [0, 1, 2, 3] = 0 := by decide +kernel
theorem w9 : FnR Try.prog 4 [] [.c (.B true)] := by
  have g51 := f51 4 awT
  rw [aw1, aw2] at g51
  have g11 := w11 4 awT
  rw [aw3, aw4] at g11
  have g19 := w19 4 awT [0, 1, 2, 3] (by simp)
  rw [aw5, aw6] at g19
  have g43a := f43 [0, 2, 3, 1] [0, 2, 3, 1]
  have g43b := f43 [2, 1, 1] [2, 1, 1]
  simp only [decide_true] at g43a g43b
  simp only [awT, RV.froze, Row, Tab, List.map_cons, List.map_nil] at g51 g11 g19 g43a g43b
  refine fn_walk code4 (by simp) ?_
  (repeat' (first | refine NextAt.mk (fun hc => ?_) (fun pre n v post hc hkey => ?_) | refine Sni.mk (fun hc => ?_) ?_ | refine Both.mk ?_ ?_ | refine AW_seq ?_ | refine AW_block ?_ | ((first | refine AW_reg ?_ | refine AW_cond ?_ | refine AW_skip ?_ | refine AW_exit ?_ | refine AW_ret ?_ | refine AW_regD (by kernel_rfl) ?_ | refine AW_regX (by kernel_rfl) ?_ | refine CallAtG.t (Eq.refl true) ?_ | refine CallAtG.f (Eq.refl false) ?_); try simp (disch := omega) only [go_sem, seval, reduceCtorEq, ↓reduceIte, beq_dec, Int.toNat_natCast, IntKind.signed, IntKind.bits]) | refine And.intro (fun hc => (?_ : AW _ _ _ _)) (fun hc => (?_ : AW _ _ _ _)) | simp (disch := omega) only [go_sem, seval, reduceCtorEq, ↓reduceIte, beq_dec, Int.toNat_natCast, IntKind.signed, IntKind.bits] | (refine And.intro ?_ ?_; focus (first | (intros; omega) | (intros; simp_all; done))) | refine And.intro (?_ : CallAt _ _ _ _ _ _ _ _) ?_ | refine And.intro (?_ : CallAt _ _ _ _ _ _ _ _ ∧ _) ?_ | refine And.intro (?_ : AW _ _ _ _) ?_ | fail))
  refine CallAt.frz [11] ?_
  simp (disch := omega) only [go_sem, seval, reduceCtorEq, ↓reduceIte, beq_dec, Int.toNat_natCast, IntKind.signed, IntKind.bits]
  (repeat' (first | refine NextAt.mk (fun hc => ?_) (fun pre n v post hc hkey => ?_) | refine Sni.mk (fun hc => ?_) ?_ | refine Both.mk ?_ ?_ | refine AW_seq ?_ | refine AW_block ?_ | ((first | refine AW_reg ?_ | refine AW_cond ?_ | refine AW_skip ?_ | refine AW_exit ?_ | refine AW_ret ?_ | refine AW_regD (by kernel_rfl) ?_ | refine AW_regX (by kernel_rfl) ?_ | refine CallAtG.t (Eq.refl true) ?_ | refine CallAtG.f (Eq.refl false) ?_ | refine CallAt.mk _ (g51 ..) (by first | (intro h; cases h; done) | (intro _; repeat' (first | exact List.forall_mem_nil _ | trivial | refine List.forall_mem_cons.2 ⟨?_, ?_⟩)) | (intro _; simp [RV.flatP, CD.flatP]; done)) ?_ | refine CallAtG.mk _ (fun _ => g51 ..) ?_ | refine CallDS.mk _ (by simp [RV.data]) (fun _ => g51 ..) (by first | (intro h; cases h; done) | (intro _; repeat' (first | exact List.forall_mem_nil _ | trivial | refine List.forall_mem_cons.2 ⟨?_, ?_⟩)) | (intro _; simp [RV.flatP, CD.flatP]; done)) ?_ | refine CallAt.mk _ (g11 ..) (by first | (intro h; cases h; done) | (intro _; repeat' (first | exact List.forall_mem_nil _ | trivial | refine List.forall_mem_cons.2 ⟨?_, ?_⟩)) | (intro _; simp [RV.flatP, CD.flatP]; done)) ?_ | refine CallAtG.mk _ (fun _ => g11 ..) ?_ | refine CallDS.mk _ (by simp [RV.data]) (fun _ => g11 ..) (by first | (intro h; cases h; done) | (intro _; repeat' (first | exact List.forall_mem_nil _ | trivial | refine List.forall_mem_cons.2 ⟨?_, ?_⟩)) | (intro _; simp [RV.flatP, CD.flatP]; done)) ?_ | refine CallAt.mk _ (g19 ..) (by first | (intro h; cases h; done) | (intro _; repeat' (first | exact List.forall_mem_nil _ | trivial | refine List.forall_mem_cons.2 ⟨?_, ?_⟩)) | (intro _; simp [RV.flatP, CD.flatP]; done)) ?_ | refine CallAtG.mk _ (fun _ => g19 ..) ?_ | refine CallDS.mk _ (by simp [RV.data]) (fun _ => g19 ..) (by first | (intro h; cases h; done) | (intro _; repeat' (first | exact List.forall_mem_nil _ | trivial | refine List.forall_mem_cons.2 ⟨?_, ?_⟩)) | (intro _; simp [RV.flatP, CD.flatP]; done)) ?_ | refine CallAt.mk _ (g43a ..) (by first | (intro h; cases h; done) | (intro _; repeat' (first | exact List.forall_mem_nil _ | trivial | refine List.forall_mem_cons.2 ⟨?_, ?_⟩)) | (intro _; simp [RV.flatP, CD.flatP]; done)) ?_ | refine CallAtG.mk _ (fun _ => g43a ..) ?_ | refine CallDS.mk _ (by simp [RV.data]) (fun _ => g43a ..) (by first | (intro h; cases h; done) | (intro _; repeat' (first | exact List.forall_mem_nil _ | trivial | refine List.forall_mem_cons.2 ⟨?_, ?_⟩)) | (intro _; simp [RV.flatP, CD.flatP]; done)) ?_ | refine CallAt.mk _ (g43b ..) (by first | (intro h; cases h; done) | (intro _; repeat' (first | exact List.forall_mem_nil _ | trivial | refine List.forall_mem_cons.2 ⟨?_, ?_⟩)) | (intro _; simp [RV.flatP, CD.flatP]; done)) ?_ | refine CallAtG.mk _ (fun _ => g43b ..) ?_ | refine CallDS.mk _ (by simp [RV.data]) (fun _ => g43b ..) (by first | (intro h; cases h; done) | (intro _; repeat' (first | exact List.forall_mem_nil _ | trivial | refine List.forall_mem_cons.2 ⟨?_, ?_⟩)) | (intro _; simp [RV.flatP, CD.flatP]; done)) ?_); try simp (disch := omega) only [go_sem, seval, reduceCtorEq, ↓reduceIte, beq_dec, Int.toNat_natCast, IntKind.signed, IntKind.bits]) | refine And.intro (fun hc => (?_ : AW _ _ _ _)) (fun hc => (?_ : AW _ _ _ _)) | simp (disch := omega) only [go_sem, seval, reduceCtorEq, ↓reduceIte, beq_dec, Int.toNat_natCast, IntKind.signed, IntKind.bits] | (refine And.intro ?_ ?_; focus (first | (intros; omega) | (intros; simp_all; done))) | refine And.intro (?_ : CallAt _ _ _ _ _ _ _ _) ?_ | refine And.intro (?_ : CallAt _ _ _ _ _ _ _ _ ∧ _) ?_ | refine And.intro (?_ : AW _ _ _ _) ?_ | fail))
end Go.Proofs.Ytddhinbiahcjlaa

