/-
  Lemmas for the proof: no statement of its own.
-/
import Derived.Test.YtdmngdphgnnoiaaPlainA
import Derived.Test.YtdmngdphgnnoiaaAlD
import Derived.Test.YtdmngdphgnnoiaaCutA
import Derived.Test.YtdmngdphgnnoiaaProg
import Derived.KernelRfl
set_option linter.unusedVariables false
set_option linter.unusedSimpArgs false
open Go Go.AL Go.RowKit
namespace Go.Proofs.Ytdmngdphgnnoiaa
set_option maxRecDepth 20000
/- (coinage/dating.closed).limit -/
abbrev c43_1 : AC := .regX (.first ⟨(some 8), .mv (.t 0), none⟩
  (.first ⟨(some 9), .mv (.t 1), none⟩
  (.first ⟨(some 10), .iad 1 (.t 8) (.t 9), none⟩
  (.first ⟨(some 12), .mv (.t 2), none⟩
  (.first ⟨(some 13), .mv (.t 0), none⟩
  (.first ⟨(some 14), .mv (.t 1), none⟩
  (.first ⟨(some 15), .iad 1 (.t 13) (.t 14), none⟩
  (.first ⟨(some 17), .mv (.t 2), none⟩
  (.first ⟨(some 20), .mv (.t 3), none⟩
  (.fork ⟨(some 11), .ld none (.t 10), none⟩
  (.fork ⟨(some 16), .ld none (.t 15), none⟩
  (.first ⟨(some 18), .iad 1 (.t 16) (.t 17), none⟩
  (.fork ⟨(some 19), .ld none (.t 18), none⟩
  (.first ⟨(some 21), .minmax false (.t 19) (.t 20), none⟩
  (.first ⟨(some 22), .iad 1 (.t 11) (.t 12), none⟩
  (.fork ⟨none, .st none (.t 22) (.t 21), none⟩
  .done
  .nope)))
  .nope))
  .nope)
  (.fork ⟨(some 16), .ld none (.t 15), none⟩
  (.first ⟨(some 18), .iad 1 (.t 16) (.t 17), none⟩
  (.fork ⟨(some 11), .ld none (.t 10), none⟩
  (.fork ⟨(some 19), .ld none (.t 18), none⟩
  (.first ⟨(some 21), .minmax false (.t 19) (.t 20), none⟩
  (.first ⟨(some 22), .iad 1 (.t 11) (.t 12), none⟩
  (.fork ⟨none, .st none (.t 22) (.t 21), none⟩
  .done
  .nope)))
  .nope)
  (.fork ⟨(some 19), .ld none (.t 18), none⟩
  (.first ⟨(some 21), .minmax false (.t 19) (.t 20), none⟩
  (.fork ⟨(some 11), .ld none (.t 10), none⟩
  (.first ⟨(some 22), .iad 1 (.t 11) (.t 12), none⟩
  (.fork ⟨none, .st none (.t 22) (.t 21), none⟩
  .done
  .nope))
  .nope))
  .nope)))
  .nope)))))))))))
abbrev c43 : AC := c43_1
theorem code43 : fnCode Try.prog 43 = some (c43, [], 23) := by kernel_rfl
/- (coinage/difference.limit).less -/
abbrev c44_1 : AC := .reg [⟨(some 2), .box 76 (some 2) (.t 0), none⟩,
  ⟨(some 3), .box 76 (some 2) (.t 1), none⟩,
  ⟨(some 4), .alloc 76 [(.I 0), (.B false)], none⟩] false
abbrev c44_2 : AC := .reg [⟨(some 5), .fad 1 (.t 2), none⟩,
  ⟨(some 6), .ld none (.t 5), none⟩,
  ⟨(some 7), .not (.t 6), none⟩,
  ⟨(some 8), .mv (.t 7), none⟩,
  ⟨(some 9), .fad 1 (.t 3), (some (8, false))⟩,
  ⟨(some 10), .ld none (.t 9), (some (8, false))⟩,
  ⟨(some 11), .mv (.t 10), (some (8, false))⟩,
  ⟨(some 12), .fad 0 (.t 3), (some (11, true))⟩,
  ⟨(some 13), .ld none (.t 12), (some (11, true))⟩,
  ⟨(some 14), .fad 0 (.t 2), (some (11, true))⟩,
  ⟨(some 15), .ld none (.t 14), (some (11, true))⟩,
  ⟨(some 16), .bin .lss (.t 13) (.t 15), (some (11, true))⟩,
  ⟨(some 17), .pick (.t 11) (.t 16) (.k (.B false)), (some (8, false))⟩,
  ⟨(some 18), .pick (.t 8) (.k (.B true)) (.t 17), none⟩] false
abbrev c44_3 : AC := .reg [⟨(some 19), .ld (some 2) (.t 3), none⟩,
  ⟨none, .st (some 2) (.t 4) (.t 19), none⟩] false
abbrev c44_4 : AC := .seq c44_3 .ret
abbrev c44_5 : AC := .cond (.t 18) c44_4 .skip
abbrev c44_6 : AC := .seq c44_2 c44_5
abbrev c44_7 : AC := .reg [⟨(some 20), .ld (some 2) (.t 2), none⟩,
  ⟨none, .st (some 2) (.t 4) (.t 20), none⟩] false
abbrev c44_8 : AC := .seq c44_7 .ret
abbrev c44_9 : AC := .seq c44_6 c44_8
abbrev c44_10 : AC := .seq c44_1 c44_9
abbrev c44 : AC := c44_10
theorem code44 : fnCode Try.prog 44 = some (c44, [4000004], 21) := by kernel_rfl
/- (coinage/difference.limit).plus -/
abbrev c45_1 : AC := .reg [⟨(some 2), .box 76 (some 2) (.t 0), none⟩,
  ⟨(some 3), .box 76 (some 2) (.t 1), none⟩,
  ⟨(some 4), .alloc 76 [(.I 0), (.B false)], none⟩] false
abbrev c45_2 : AC := .reg [⟨(some 5), .fad 1 (.t 2), none⟩,
  ⟨(some 6), .ld none (.t 5), none⟩,
  ⟨(some 7), .not (.t 6), none⟩,
  ⟨(some 8), .mv (.t 7), none⟩,
  ⟨(some 9), .fad 1 (.t 3), (some (8, false))⟩,
  ⟨(some 10), .ld none (.t 9), (some (8, false))⟩,
  ⟨(some 11), .not (.t 10), (some (8, false))⟩,
  ⟨(some 12), .pick (.t 8) (.k (.B true)) (.t 11), none⟩] false
abbrev c45_3 : AC := .reg [⟨(some 13), .build [(.I 0), (.B false)] [], none⟩,
  ⟨none, .st (some 2) (.t 4) (.t 13), none⟩] false
abbrev c45_4 : AC := .seq c45_3 .ret
abbrev c45_5 : AC := .cond (.t 12) c45_4 .skip
abbrev c45_6 : AC := .seq c45_2 c45_5
abbrev c45_7 : AC := .reg [⟨(some 14), .fad 0 (.t 2), none⟩,
  ⟨(some 15), .ld none (.t 14), none⟩,
  ⟨(some 16), .fad 0 (.t 3), none⟩,
  ⟨(some 17), .ld none (.t 16), none⟩,
  ⟨(some 18), .bin .add (.t 15) (.t 17), none⟩,
  ⟨(some 19), .build [(.I 0), (.B false)] [(0, 1, (.t 18)), (1, 1, (.k (.B true)))], none⟩,
  ⟨none, .st (some 2) (.t 4) (.t 19), none⟩] false
abbrev c45_8 : AC := .seq c45_7 .ret
abbrev c45_9 : AC := .seq c45_6 c45_8
abbrev c45_10 : AC := .seq c45_1 c45_9
abbrev c45 : AC := c45_10
theorem code45 : fnCode Try.prog 45 = some (c45, [4000004], 20) := by kernel_rfl
theorem iRow_get (R : List Int) (j : Nat) (h : j < R.length) : (iRow R).getD j [] = [CD.I (nth R j)] := getD_map (fun x : Int => [CD.I x]) R j [] h
theorem iRow_set (R : List Int) (j : Nat) (v : Int) : (iRow R).set j [CD.I v] = iRow (R.set j v) := by simp [iRow, List.map_set]
set_option maxHeartbeats 4000000 in
theorem x43 (R : List Int) (n i j : Nat) (c : Int) (hi : i < n) (hj : j < R.length) : FnW Try.prog 43 [.osl n i 1000901, .I (i : Int), .I (j : Int), .I c] [(1000901, .arr 3 1 (iRow R))] [] [(1000901, .arr 3 1 (iRow (R.set j (min (nth R j) c))))] [1000901] := by
  have hge := iRow_get R j hj
  have hset := iRow_set R j (min (nth R j) c)
  have hl : (iRow R).length = R.length := by simp
  have hkk : ((j : Int) < (R.length : Int)) = True := eq_true (by omega)
  refine fn_walkW code43 (by simp) (by rfl) ?_
  (repeat' (first | refine NextAt.mk (fun hc => ?_) (fun pre n v post hc hkey => ?_) | refine Sni.mk (fun hc => ?_) ?_ | refine Both.mk ?_ ?_ | refine AW_seq ?_ | refine AW_block ?_ | ((first | refine AW_reg ?_ | refine AW_cond ?_ | refine AW_skip ?_ | refine AW_exit ?_ | refine AW_ret ?_ | refine AW_regD (by kernel_rfl) ?_ | refine AW_regX (by kernel_rfl) ?_ | refine CallAtG.t (Eq.refl true) ?_ | refine CallAtG.f (Eq.refl false) ?_); try simp (disch := omega) only [go_sem, seval, reduceCtorEq, ↓reduceIte, beq_dec, Int.toNat_natCast, IntKind.signed, IntKind.bits, Int.toNat_natCast, hge, hl, hset, hkk, hi]) | refine And.intro (fun hc => (?_ : AW _ _ _ _)) (fun hc => (?_ : AW _ _ _ _)) | simp (disch := omega) only [go_sem, seval, reduceCtorEq, ↓reduceIte, beq_dec, Int.toNat_natCast, IntKind.signed, IntKind.bits, Int.toNat_natCast, hge, hl, hset, hkk, hi] | (refine And.intro ?_ ?_; focus (first | (intros; omega) | (intros; simp_all; done))) | refine And.intro (?_ : CallAt _ _ _ _ _ _ _ _) ?_ | refine And.intro (?_ : CallAt _ _ _ _ _ _ _ _ ∧ _) ?_ | refine And.intro (?_ : AW _ _ _ _) ?_ | fail))
  all_goals exact hj
end Go.Proofs.Ytdmngdphgnnoiaa

open Go Go.AL Go.RowKit
namespace Go.Proofs.Ytdmngdphgnnoiaa
set_option maxRecDepth 20000
/- coinage/years.within -/
abbrev c34_1 : AC := .reg [⟨(some 2), .mv (.k (.B false)), none⟩] false
abbrev c34_2 : AC := .reg [⟨(some 3), .mv (.t 0), none⟩,
  ⟨(some 4), .bin .geq (.t 3) (.k (.I (-9999))), none⟩,
  ⟨(some 5), .mv (.t 4), none⟩,
  ⟨(some 6), .mv (.t 0), (some (5, true))⟩,
  ⟨(some 7), .bin .leq (.t 6) (.k (.I 9999)), (some (5, true))⟩,
  ⟨(some 8), .pick (.t 5) (.t 7) (.k (.B false)), none⟩,
  ⟨(some 2), .mv (.t 8), none⟩] false
abbrev c34_3 : AC := .seq c34_2 .ret
abbrev c34_4 : AC := .seq c34_1 c34_3
abbrev c34 : AC := c34_4
theorem code34 : fnCode Try.prog 34 = some (c34, [2], 9) := by kernel_rfl
/- coinage/years.Valid -/
abbrev c18_1 : AC := .reg [⟨(some 1), .box 32 (some 2) (.t 0), none⟩,
  ⟨(some 2), .mv (.k (.B false)), none⟩] false
abbrev c18_2 : AC := .reg [⟨(some 3), .fad 0 (.t 1), none⟩,
  ⟨(some 4), .ld none (.t 3), none⟩,
  ⟨(some 5), .fad 1 (.t 1), none⟩,
  ⟨(some 6), .ld none (.t 5), none⟩,
  ⟨(some 7), .bin .leq (.t 4) (.t 6), none⟩,
  ⟨(some 8), .mv (.t 7), none⟩,
  ⟨(some 9), .fad 0 (.t 1), (some (8, true))⟩,
  ⟨(some 10), .ld none (.t 9), (some (8, true))⟩,
  ⟨(some 11), .call 34 [(.t 10)], (some (8, true))⟩,
  ⟨(some 12), .pick (.t 8) (.t 11) (.k (.B false)), none⟩,
  ⟨(some 13), .mv (.t 12), none⟩,
  ⟨(some 14), .fad 1 (.t 1), (some (13, true))⟩,
  ⟨(some 15), .ld none (.t 14), (some (13, true))⟩,
  ⟨(some 16), .call 34 [(.t 15)], (some (13, true))⟩,
  ⟨(some 17), .pick (.t 13) (.t 16) (.k (.B false)), none⟩,
  ⟨(some 2), .mv (.t 17), none⟩] false
abbrev c18_3 : AC := .seq c18_2 .ret
abbrev c18_4 : AC := .seq c18_1 c18_3
abbrev c18 : AC := c18_4
theorem code18 : fnCode Try.prog 18 = some (c18, [2], 18) := by kernel_rfl
/- coinage/hoard.within -/
abbrev c35_1 : AC := .reg [⟨(some 6), .mv (.k (.B false)), none⟩] false
abbrev c35_2 : AC := .reg [⟨(some 7), .mv (.t 0), none⟩,
  ⟨(some 8), .mv (.t 1), none⟩,
  ⟨(some 9), .bin .geq (.t 7) (.t 8), none⟩,
  ⟨(some 10), .mv (.t 9), none⟩,
  ⟨(some 11), .mv (.t 0), (some (10, true))⟩,
  ⟨(some 12), .mv (.t 2), (some (10, true))⟩,
  ⟨(some 13), .bin .leq (.t 11) (.t 12), (some (10, true))⟩,
  ⟨(some 14), .pick (.t 10) (.t 13) (.k (.B false)), none⟩,
  ⟨(some 6), .mv (.t 14), none⟩] false
abbrev c35_3 : AC := .seq c35_2 .ret
abbrev c35_4 : AC := .seq c35_1 c35_3
abbrev c35 : AC := c35_4
theorem code35 : fnCode Try.prog 35 = some (c35, [6], 15) := by kernel_rfl
/- coinage/coinagebase.In -/
abbrev c20_1 : AC := .reg [⟨(some 6), .mv (.k (.B false)), none⟩] false
abbrev c20_2 : AC := .reg [⟨(some 7), .mv (.t 0), none⟩,
  ⟨(some 8), .mv (.t 1), none⟩,
  ⟨(some 9), .bin .geq (.t 7) (.t 8), none⟩,
  ⟨(some 10), .mv (.t 9), none⟩,
  ⟨(some 11), .mv (.t 0), (some (10, true))⟩,
  ⟨(some 12), .mv (.t 2), (some (10, true))⟩,
  ⟨(some 13), .bin .leq (.t 11) (.t 12), (some (10, true))⟩,
  ⟨(some 14), .pick (.t 10) (.t 13) (.k (.B false)), none⟩,
  ⟨(some 6), .mv (.t 14), none⟩] false
abbrev c20_3 : AC := .seq c20_2 .ret
abbrev c20_4 : AC := .seq c20_1 c20_3
abbrev c20 : AC := c20_4
theorem code20 : fnCode Try.prog 20 = some (c20, [6], 15) := by kernel_rfl
/- coinage/hoard.listed -/
abbrev c36_1 : AC := .reg [⟨(some 6), .mv (.k (.B false)), none⟩] false
abbrev c36_2 : AC := .reg [⟨(some 9), .mv (.t 0), none⟩,
  ⟨(some 10), .len (.t 9), none⟩,
  ⟨(some 11), .mv (.k (.I 0)), none⟩] false
abbrev c36_3 : AC := .reg [⟨(some 12), .bin .lss (.t 11) (.t 10), none⟩] false
abbrev c36_4 : AC := .cond (.t 12) .skip (.exit 0)
abbrev c36_5 : AC := .reg [⟨(some 13), .mv (.t 11), none⟩,
  ⟨(some 14), .iad 2 (.t 9) (.t 11), none⟩,
  ⟨(some 15), .ld (some 2) (.t 14), none⟩,
  ⟨(some 8), .alloc 36 [(.I 0), (.I 0)], none⟩,
  ⟨(some 7), .mv (.t 13), none⟩,
  ⟨none, .st (some 2) (.t 8) (.t 15), none⟩] false
abbrev c36_6 : AC := .regD [(⟨(some 16), .fad 0 (.t 8), none⟩, [8]),
  (⟨(some 17), .ld none (.t 16), none⟩, [16]),
  (⟨(some 18), .call 35 [(.t 17), (.k (.I 1)), (.k (.I 99))], none⟩, [17]),
  (⟨(some 19), .not (.t 18), none⟩, [18]),
  (⟨(some 20), .mv (.t 19), none⟩, [19]),
  (⟨(some 21), .fad 1 (.t 8), (some (20, false))⟩, [8, 20]),
  (⟨(some 22), .ld none (.t 21), (some (20, false))⟩, [21, 20]),
  (⟨(some 23), .mv (.t 1), (some (20, false))⟩, [1, 20]),
  (⟨(some 24), .mv (.t 2), (some (20, false))⟩, [2, 20]),
  (⟨(some 25), .call 35 [(.t 22), (.t 23), (.t 24)], (some (20, false))⟩, [22, 23, 24, 20]),
  (⟨(some 26), .not (.t 25), (some (20, false))⟩, [25, 20]),
  (⟨(some 27), .pick (.t 20) (.k (.B true)) (.t 26), none⟩, [20, 26]),
  (⟨(some 28), .mv (.t 27), none⟩, [27]),
  (⟨(some 29), .mv (.t 7), (some (28, false))⟩, [7, 28]),
  (⟨(some 30), .bin .gtr (.t 29) (.k (.I 0)), (some (28, false))⟩, [29, 28]),
  (⟨(some 31), .mv (.t 30), (some (28, false))⟩, [30, 28]),
  (⟨(some 32), .fad 0 (.t 8), (some (31, true))⟩, [8, 31]),
  (⟨(some 33), .ld none (.t 32), (some (31, true))⟩, [32, 31]),
  (⟨(some 34), .mv (.t 0), (some (31, true))⟩, [0, 31]),
  (⟨(some 35), .mv (.t 7), (some (31, true))⟩, [7, 31]),
  (⟨(some 36), .bin .sub (.t 35) (.k (.I 1)), (some (31, true))⟩, [35, 31]),
  (⟨(some 37), .iad 2 (.t 34) (.t 36), (some (31, true))⟩, [34, 36, 31]),
  (⟨(some 38), .fad 0 (.t 37), (some (31, true))⟩, [37, 31]),
  (⟨(some 39), .ld none (.t 38), (some (31, true))⟩, [38, 31]),
  (⟨(some 40), .bin .leq (.t 33) (.t 39), (some (31, true))⟩, [33, 39, 31]),
  (⟨(some 41), .pick (.t 31) (.t 40) (.k (.B false)), (some (28, false))⟩, [31, 40, 28]),
  (⟨(some 42), .pick (.t 28) (.k (.B true)) (.t 41), none⟩, [28, 41])]
abbrev c36_7 : AC := .reg [⟨(some 6), .mv (.k (.B false)), none⟩] false
abbrev c36_8 : AC := .seq c36_7 .ret
abbrev c36_9 : AC := .cond (.t 42) c36_8 .skip
abbrev c36_10 : AC := .seq c36_6 c36_9
abbrev c36_11 : AC := .seq c36_5 c36_10
abbrev c36_12 : AC := .block 1 c36_11
abbrev c36_13 : AC := .reg [⟨(some 43), .bin .add (.t 11) (.k (.I 1)), none⟩,
  ⟨(some 11), .mv (.t 43), none⟩] false
abbrev c36_14 : AC := .seq c36_12 c36_13
abbrev c36_15 : AC := .seq c36_4 c36_14
abbrev c36_16 : AC := .seq c36_3 c36_15
abbrev c36_17 : AC := .loop c36_16
abbrev c36_18 : AC := .block 0 c36_17
abbrev c36_19 : AC := .seq c36_2 c36_18
abbrev c36_20 : AC := .reg [⟨(some 6), .mv (.k (.B true)), none⟩] false
abbrev c36_21 : AC := .seq c36_20 .ret
abbrev c36_22 : AC := .seq c36_19 c36_21
abbrev c36_23 : AC := .seq c36_1 c36_22
abbrev c36 : AC := c36_23
theorem code36 : fnCode Try.prog 36 = some (c36, [6], 44) := by kernel_rfl
/- coinage/hoard.Valid -/
abbrev c19_1 : AC := .reg [⟨(some 1), .box 34 (some 4) (.t 0), none⟩,
  ⟨(some 2), .mv (.k (.B false)), none⟩] false
abbrev c19_2 : AC := .reg [⟨(some 3), .fad 0 (.t 1), none⟩,
  ⟨(some 4), .ld none (.t 3), none⟩,
  ⟨(some 5), .call 35 [(.t 4), (.k (.I 1)), (.k (.I 99))], none⟩,
  ⟨(some 6), .mv (.t 5), none⟩,
  ⟨(some 7), .fad 1 (.t 1), (some (6, true))⟩,
  ⟨(some 8), .ld none (.t 7), (some (6, true))⟩,
  ⟨(some 9), .len (.t 8), (some (6, true))⟩,
  ⟨(some 10), .call 35 [(.t 9), (.k (.I 1)), (.k (.I 32))], (some (6, true))⟩,
  ⟨(some 11), .pick (.t 6) (.t 10) (.k (.B false)), none⟩,
  ⟨(some 12), .mv (.t 11), none⟩,
  ⟨(some 13), .fad 1 (.t 1), (some (12, true))⟩,
  ⟨(some 14), .ld none (.t 13), (some (12, true))⟩,
  ⟨(some 15), .call 36 [(.t 14), (.k (.I 1)), (.k (.I 999))], (some (12, true))⟩,
  ⟨(some 16), .pick (.t 12) (.t 15) (.k (.B false)), none⟩,
  ⟨(some 17), .mv (.t 16), none⟩,
  ⟨(some 18), .fad 2 (.t 1), (some (17, true))⟩,
  ⟨(some 19), .ld (some 2) (.t 18), (some (17, true))⟩,
  ⟨(some 20), .call 18 [(.t 19)], (some (17, true))⟩,
  ⟨(some 21), .pick (.t 17) (.t 20) (.k (.B false)), none⟩,
  ⟨(some 2), .mv (.t 21), none⟩] false
abbrev c19_3 : AC := .seq c19_2 .ret
abbrev c19_4 : AC := .seq c19_1 c19_3
abbrev c19 : AC := c19_4
theorem code19 : fnCode Try.prog 19 = some (c19, [2], 22) := by kernel_rfl
/- coinage/coinagebase.Ordered -/
abbrev c21_1 : AC := .reg [⟨(some 4), .mv (.k (.B false)), none⟩] false
abbrev c21_2 : AC := .reg [⟨(some 5), .mv (.k (.I 1)), none⟩] false
abbrev c21_3 : AC := .reg [⟨(some 6), .mv (.t 5), none⟩,
  ⟨(some 7), .mv (.t 0), none⟩,
  ⟨(some 8), .len (.t 7), none⟩,
  ⟨(some 9), .bin .lss (.t 6) (.t 8), none⟩] false
abbrev c21_4 : AC := .cond (.t 9) .skip (.exit 0)
abbrev c21_5 : AC := .seq c21_3 c21_4
abbrev c21_6 : AC := .regD [(⟨(some 12), .mv (.t 0), none⟩, [0]),
  (⟨(some 13), .mv (.t 5), none⟩, [5]),
  (⟨(some 14), .iad 2 (.t 12) (.t 13), none⟩, [12, 13]),
  (⟨(some 15), .fad 0 (.t 14), none⟩, [14]),
  (⟨(some 16), .ld none (.t 15), none⟩, [15]),
  (⟨(some 17), .mv (.t 0), none⟩, [0]),
  (⟨(some 18), .mv (.t 5), none⟩, [5]),
  (⟨(some 19), .bin .sub (.t 18) (.k (.I 1)), none⟩, [18]),
  (⟨(some 20), .iad 2 (.t 17) (.t 19), none⟩, [17, 19]),
  (⟨(some 21), .fad 0 (.t 20), none⟩, [20]),
  (⟨(some 22), .ld none (.t 21), none⟩, [21]),
  (⟨(some 23), .bin .leq (.t 16) (.t 22), none⟩, [16, 22])]
abbrev c21_7 : AC := .reg [⟨(some 4), .mv (.k (.B false)), none⟩] false
abbrev c21_8 : AC := .seq c21_7 .ret
abbrev c21_9 : AC := .cond (.t 23) c21_8 .skip
abbrev c21_10 : AC := .seq c21_6 c21_9
abbrev c21_11 : AC := .block 1 c21_10
abbrev c21_12 : AC := .reg [⟨(some 10), .mv (.t 5), none⟩,
  ⟨(some 11), .bin .add (.t 10) (.k (.I 1)), none⟩,
  ⟨(some 5), .mv (.t 11), none⟩] false
abbrev c21_13 : AC := .seq c21_11 c21_12
abbrev c21_14 : AC := .seq c21_5 c21_13
abbrev c21_15 : AC := .loop c21_14
abbrev c21_16 : AC := .block 0 c21_15
abbrev c21_17 : AC := .seq c21_2 c21_16
abbrev c21_18 : AC := .reg [⟨(some 24), .mv (.t 0), none⟩,
  ⟨(some 25), .len (.t 24), none⟩,
  ⟨(some 26), .mv (.t 1), none⟩,
  ⟨(some 27), .bin .leq (.t 25) (.t 26), none⟩,
  ⟨(some 4), .mv (.t 27), none⟩] false
abbrev c21_19 : AC := .seq c21_18 .ret
abbrev c21_20 : AC := .seq c21_17 c21_19
abbrev c21_21 : AC := .seq c21_1 c21_20
abbrev c21 : AC := c21_21
theorem code21 : fnCode Try.prog 21 = some (c21, [4], 28) := by kernel_rfl
/- coinage/coinagebase.Size -/
abbrev c37_1 : AC := .reg [⟨(some 4), .mv (.k (.B false)), none⟩] false
abbrev c37_2 : AC := .reg [⟨(some 5), .mv (.t 0), none⟩,
  ⟨(some 6), .mv (.t 1), none⟩,
  ⟨(some 7), .neg (.t 6), none⟩,
  ⟨(some 8), .bin .geq (.t 5) (.t 7), none⟩,
  ⟨(some 9), .mv (.t 8), none⟩,
  ⟨(some 10), .mv (.t 0), (some (9, true))⟩,
  ⟨(some 11), .mv (.t 1), (some (9, true))⟩,
  ⟨(some 12), .bin .leq (.t 10) (.t 11), (some (9, true))⟩,
  ⟨(some 13), .pick (.t 9) (.t 12) (.k (.B false)), none⟩,
  ⟨(some 4), .mv (.t 13), none⟩] false
abbrev c37_3 : AC := .seq c37_2 .ret
abbrev c37_4 : AC := .seq c37_1 c37_3
abbrev c37 : AC := c37_4
theorem code37 : fnCode Try.prog 37 = some (c37, [4], 14) := by kernel_rfl
/- coinage/coinagebase.Years -/
abbrev c22_1 : AC := .reg [⟨(some 1), .box 32 (some 2) (.t 0), none⟩,
  ⟨(some 2), .mv (.k (.B false)), none⟩] false
abbrev c22_2 : AC := .reg [⟨(some 3), .fad 0 (.t 1), none⟩,
  ⟨(some 4), .ld none (.t 3), none⟩,
  ⟨(some 5), .fad 1 (.t 1), none⟩,
  ⟨(some 6), .ld none (.t 5), none⟩,
  ⟨(some 7), .bin .leq (.t 4) (.t 6), none⟩,
  ⟨(some 8), .mv (.t 7), none⟩,
  ⟨(some 9), .fad 0 (.t 1), (some (8, true))⟩,
  ⟨(some 10), .ld none (.t 9), (some (8, true))⟩,
  ⟨(some 11), .call 37 [(.t 10), (.k (.I 9999))], (some (8, true))⟩,
  ⟨(some 12), .pick (.t 8) (.t 11) (.k (.B false)), none⟩,
  ⟨(some 13), .mv (.t 12), none⟩,
  ⟨(some 14), .fad 1 (.t 1), (some (13, true))⟩,
  ⟨(some 15), .ld none (.t 14), (some (13, true))⟩,
  ⟨(some 16), .call 37 [(.t 15), (.k (.I 9999))], (some (13, true))⟩,
  ⟨(some 17), .pick (.t 13) (.t 16) (.k (.B false)), none⟩,
  ⟨(some 2), .mv (.t 17), none⟩] false
abbrev c22_3 : AC := .seq c22_2 .ret
abbrev c22_4 : AC := .seq c22_1 c22_3
abbrev c22 : AC := c22_4
theorem code22 : fnCode Try.prog 22 = some (c22, [2], 18) := by kernel_rfl
/- coinage/coinagebase.Hoard -/
abbrev c6_1 : AC := .reg [⟨(some 1), .box 34 (some 4) (.t 0), none⟩,
  ⟨(some 2), .mv (.k (.B false)), none⟩] false
abbrev c6_2 : AC := .reg [⟨(some 4), .fad 0 (.t 1), none⟩,
  ⟨(some 5), .ld none (.t 4), none⟩,
  ⟨(some 6), .call 20 [(.t 5), (.k (.I 1)), (.k (.I 99))], none⟩,
  ⟨(some 7), .not (.t 6), none⟩,
  ⟨(some 8), .mv (.t 7), none⟩,
  ⟨(some 9), .fad 1 (.t 1), (some (8, false))⟩,
  ⟨(some 10), .ld none (.t 9), (some (8, false))⟩,
  ⟨(some 11), .len (.t 10), (some (8, false))⟩,
  ⟨(some 12), .bin .eql (.t 11) (.k (.I 0)), (some (8, false))⟩,
  ⟨(some 13), .pick (.t 8) (.k (.B true)) (.t 12), none⟩,
  ⟨(some 14), .mv (.t 13), none⟩,
  ⟨(some 15), .fad 1 (.t 1), (some (14, false))⟩,
  ⟨(some 16), .ld none (.t 15), (some (14, false))⟩,
  ⟨(some 17), .call 21 [(.t 16), (.k (.I 32))], (some (14, false))⟩,
  ⟨(some 18), .not (.t 17), (some (14, false))⟩,
  ⟨(some 19), .pick (.t 14) (.k (.B true)) (.t 18), none⟩,
  ⟨(some 20), .mv (.t 19), none⟩,
  ⟨(some 21), .fad 2 (.t 1), (some (20, false))⟩,
  ⟨(some 22), .ld (some 2) (.t 21), (some (20, false))⟩,
  ⟨(some 23), .call 22 [(.t 22)], (some (20, false))⟩,
  ⟨(some 24), .not (.t 23), (some (20, false))⟩,
  ⟨(some 25), .pick (.t 20) (.k (.B true)) (.t 24), none⟩] false
abbrev c6_3 : AC := .reg [⟨(some 2), .mv (.k (.B false)), none⟩] false
abbrev c6_4 : AC := .seq c6_3 .ret
abbrev c6_5 : AC := .cond (.t 25) c6_4 .skip
abbrev c6_6 : AC := .seq c6_2 c6_5
abbrev c6_7 : AC := .reg [⟨(some 3), .mv (.k (.I 0)), none⟩] false
abbrev c6_8 : AC := .reg [⟨(some 26), .mv (.t 3), none⟩,
  ⟨(some 27), .fad 1 (.t 1), none⟩,
  ⟨(some 28), .ld none (.t 27), none⟩,
  ⟨(some 29), .len (.t 28), none⟩,
  ⟨(some 30), .bin .lss (.t 26) (.t 29), none⟩] false
abbrev c6_9 : AC := .cond (.t 30) .skip (.exit 0)
abbrev c6_10 : AC := .seq c6_8 c6_9
abbrev c6_11 : AC := .reg [⟨(some 33), .fad 1 (.t 1), none⟩,
  ⟨(some 34), .ld none (.t 33), none⟩,
  ⟨(some 35), .mv (.t 3), none⟩,
  ⟨(some 36), .iad 2 (.t 34) (.t 35), none⟩,
  ⟨(some 37), .fad 0 (.t 36), none⟩,
  ⟨(some 38), .ld none (.t 37), none⟩,
  ⟨(some 39), .call 20 [(.t 38), (.k (.I 1)), (.k (.I 99))], none⟩,
  ⟨(some 40), .not (.t 39), none⟩,
  ⟨(some 41), .mv (.t 40), none⟩,
  ⟨(some 42), .fad 1 (.t 1), (some (41, false))⟩,
  ⟨(some 43), .ld none (.t 42), (some (41, false))⟩,
  ⟨(some 44), .mv (.t 3), (some (41, false))⟩,
  ⟨(some 45), .iad 2 (.t 43) (.t 44), (some (41, false))⟩,
  ⟨(some 46), .fad 1 (.t 45), (some (41, false))⟩,
  ⟨(some 47), .ld none (.t 46), (some (41, false))⟩,
  ⟨(some 48), .call 20 [(.t 47), (.k (.I 1)), (.k (.I 999))], (some (41, false))⟩,
  ⟨(some 49), .not (.t 48), (some (41, false))⟩,
  ⟨(some 50), .pick (.t 41) (.k (.B true)) (.t 49), none⟩] false
abbrev c6_12 : AC := .reg [⟨(some 2), .mv (.k (.B false)), none⟩] false
abbrev c6_13 : AC := .seq c6_12 .ret
abbrev c6_14 : AC := .cond (.t 50) c6_13 .skip
abbrev c6_15 : AC := .seq c6_11 c6_14
abbrev c6_16 : AC := .block 1 c6_15
abbrev c6_17 : AC := .reg [⟨(some 31), .mv (.t 3), none⟩,
  ⟨(some 32), .bin .add (.t 31) (.k (.I 1)), none⟩,
  ⟨(some 3), .mv (.t 32), none⟩] false
abbrev c6_18 : AC := .seq c6_16 c6_17
abbrev c6_19 : AC := .seq c6_10 c6_18
abbrev c6_20 : AC := .loop c6_19
abbrev c6_21 : AC := .block 0 c6_20
abbrev c6_22 : AC := .seq c6_7 c6_21
abbrev c6_23 : AC := .reg [⟨(some 2), .mv (.k (.B true)), none⟩] false
abbrev c6_24 : AC := .seq c6_23 .ret
abbrev c6_25 : AC := .seq c6_22 c6_24
abbrev c6_26 : AC := .seq c6_6 c6_25
abbrev c6_27 : AC := .seq c6_1 c6_26
abbrev c6 : AC := c6_27
theorem code6 : fnCode Try.prog 6 = some (c6, [2], 51) := by kernel_rfl
/- coinage/hoard.value$1 -/
abbrev c39_1 : AC := .reg [⟨(some 2), .box 36 (some 2) (.t 0), none⟩,
  ⟨(some 3), .mv (.k (.B false)), none⟩] false
abbrev c39_2 : AC := .reg [⟨(some 4), .fad 0 (.t 2), none⟩,
  ⟨(some 5), .ld none (.t 4), none⟩,
  ⟨(some 6), .ld none (.t 1), none⟩,
  ⟨(some 7), .bin .eql (.t 5) (.t 6), none⟩,
  ⟨(some 3), .mv (.t 7), none⟩] false
abbrev c39_3 : AC := .seq c39_2 .ret
abbrev c39_4 : AC := .seq c39_1 c39_3
abbrev c39 : AC := c39_4
theorem code39 : fnCode Try.prog 39 = some (c39, [3], 8) := by kernel_rfl
/- slices.IndexFunc[[]coinage/api.Entry,coinage/api.Entry] -/
abbrev c38_1 : AC := .reg [⟨(some 4), .mv (.k (.I 0)), none⟩] false
abbrev c38_2 : AC := .reg [⟨(some 6), .mv (.t 0), none⟩,
  ⟨(some 7), .len (.t 6), none⟩,
  ⟨(some 8), .mv (.k (.I 0)), none⟩] false
abbrev c38_3 : AC := .reg [⟨(some 9), .bin .lss (.t 8) (.t 7), none⟩] false
abbrev c38_4 : AC := .cond (.t 9) .skip (.exit 0)
abbrev c38_5 : AC := .reg [⟨(some 10), .mv (.t 8), none⟩,
  ⟨(some 5), .mv (.t 10), none⟩] false
abbrev c38_6 : AC := .reg [⟨(some 11), .mv (.t 1), none⟩,
  ⟨(some 12), .mv (.t 0), none⟩,
  ⟨(some 13), .mv (.t 5), none⟩,
  ⟨(some 14), .iad 2 (.t 12) (.t 13), none⟩,
  ⟨(some 15), .ld (some 2) (.t 14), none⟩,
  ⟨(some 16), .callv (.t 11) [(.t 15)], none⟩] false
abbrev c38_7 : AC := .reg [⟨(some 17), .mv (.t 5), none⟩,
  ⟨(some 4), .mv (.t 17), none⟩] false
abbrev c38_8 : AC := .seq c38_7 .ret
abbrev c38_9 : AC := .cond (.t 16) c38_8 .skip
abbrev c38_10 : AC := .seq c38_6 c38_9
abbrev c38_11 : AC := .seq c38_5 c38_10
abbrev c38_12 : AC := .block 1 c38_11
abbrev c38_13 : AC := .reg [⟨(some 18), .bin .add (.t 8) (.k (.I 1)), none⟩,
  ⟨(some 8), .mv (.t 18), none⟩] false
abbrev c38_14 : AC := .seq c38_12 c38_13
abbrev c38_15 : AC := .seq c38_4 c38_14
abbrev c38_16 : AC := .seq c38_3 c38_15
abbrev c38_17 : AC := .loop c38_16
abbrev c38_18 : AC := .block 0 c38_17
abbrev c38_19 : AC := .seq c38_2 c38_18
abbrev c38_20 : AC := .reg [⟨(some 4), .mv (.k (.I (-1))), none⟩] false
abbrev c38_21 : AC := .seq c38_20 .ret
abbrev c38_22 : AC := .seq c38_19 c38_21
abbrev c38_23 : AC := .seq c38_1 c38_22
abbrev c38 : AC := c38_23
theorem code38 : fnCode Try.prog 38 = some (c38, [4], 19) := by kernel_rfl
/- coinage/hoard.value -/
abbrev c23_1 : AC := .reg [⟨(some 3), .box 3 none (.t 1), none⟩,
  ⟨(some 4), .mv (.k (.I 0)), none⟩,
  ⟨(some 5), .mv (.k (.B false)), none⟩] false
abbrev c23_2 : AC := .reg [⟨(some 7), .mv (.t 0), none⟩,
  ⟨(some 8), .mkfn 39 [(.t 3)], none⟩,
  ⟨(some 9), .call 38 [(.t 7), (.t 8)], none⟩,
  ⟨(some 6), .mv (.t 9), none⟩] false
abbrev c23_3 : AC := .reg [⟨(some 10), .mv (.t 6), none⟩,
  ⟨(some 11), .bin .lss (.t 10) (.k (.I 0)), none⟩] false
abbrev c23_4 : AC := .reg [⟨(some 4), .mv (.k (.I 0)), none⟩,
  ⟨(some 5), .mv (.k (.B false)), none⟩] false
abbrev c23_5 : AC := .seq c23_4 .ret
abbrev c23_6 : AC := .cond (.t 11) c23_5 .skip
abbrev c23_7 : AC := .seq c23_3 c23_6
abbrev c23_8 : AC := .reg [⟨(some 12), .mv (.t 0), none⟩,
  ⟨(some 13), .mv (.t 6), none⟩,
  ⟨(some 14), .iad 2 (.t 12) (.t 13), none⟩,
  ⟨(some 15), .fad 1 (.t 14), none⟩,
  ⟨(some 16), .ld none (.t 15), none⟩,
  ⟨(some 4), .mv (.t 16), none⟩,
  ⟨(some 5), .mv (.k (.B true)), none⟩] false
abbrev c23_9 : AC := .seq c23_8 .ret
abbrev c23_10 : AC := .seq c23_7 c23_9
abbrev c23_11 : AC := .seq c23_2 c23_10
abbrev c23_12 : AC := .seq c23_1 c23_11
abbrev c23 : AC := c23_12
theorem code23 : fnCode Try.prog 23 = some (c23, [4, 5], 17) := by kernel_rfl
/- coinage/hoard.Number -/
abbrev c7_1 : AC := .reg [⟨(some 2), .box 34 (some 4) (.t 0), none⟩,
  ⟨(some 4), .mv (.k (.I 0)), none⟩] false
abbrev c7_2 : AC := .reg [⟨(some 7), .ld (some 4) (.t 2), none⟩,
  ⟨(some 8), .call 19 [(.t 7)], none⟩,
  ⟨(some 9), .not (.t 8), none⟩] false
abbrev c7_3 : AC := .reg [⟨(some 4), .mv (.k (.I 0)), none⟩] false
abbrev c7_4 : AC := .seq c7_3 .ret
abbrev c7_5 : AC := .cond (.t 9) c7_4 .skip
abbrev c7_6 : AC := .seq c7_2 c7_5
abbrev c7_7 : AC := .reg [⟨(some 11), .fad 1 (.t 2), none⟩,
  ⟨(some 12), .ld none (.t 11), none⟩,
  ⟨(some 13), .mv (.t 1), none⟩,
  ⟨(some 14), .call 23 [(.t 12), (.t 13)], none⟩,
  ⟨(some 10), .mv (.t 14), none⟩,
  ⟨(some 15), .ext (.t 10) 0, none⟩,
  ⟨(some 16), .ext (.t 10) 1, none⟩,
  ⟨(some 5), .mv (.t 15), none⟩,
  ⟨(some 6), .mv (.t 16), none⟩] false
abbrev c7_8 : AC := .reg [⟨(some 17), .mv (.t 5), none⟩,
  ⟨(some 4), .mv (.t 17), none⟩] false
abbrev c7_9 : AC := .seq c7_8 .ret
abbrev c7_10 : AC := .seq c7_7 c7_9
abbrev c7_11 : AC := .seq c7_6 c7_10
abbrev c7_12 : AC := .seq c7_1 c7_11
abbrev c7 : AC := c7_12
theorem code7 : fnCode Try.prog 7 = some (c7, [4], 18) := by kernel_rfl
abbrev Yr := Int × Int
abbrev yc (y : Yr) : List CD := [.I y.1, .I y.2]
abbrev yv (y : Yr) : AV := .agg [.I y.1, .I y.2]
abbrev Yrs (l : List Yr) : CD := .sl 2 (l.map yc)
structure Hd where
  (id : Int) (cs : List Yr) (cl : Yr)
deriving Inhabited
abbrev hdc (h : Hd) : List CD := [.I h.id, Yrs h.cs, .I h.cl.1, .I h.cl.2]
abbrev hdv (h : Hd) : AV := .agg [.I h.id, .c (Yrs h.cs), .I h.cl.1, .I h.cl.2]
def wiY (n : Int) : Bool := decide (-9999 ≤ n) && decide (n ≤ 9999)
theorem x34 (n : Int) : FnR Try.prog 34 [.I n] [.c (.B (wiY n))] := by
  refine fn_walk code34 (by simp) ?_
  unfold wiY
  (repeat' (first | refine Both.mk ?_ ?_ | ((first | refine aw ?_ | refine aD ?_ | refine aX ?_ | refine cT ?_ | refine cF ?_); try simp (disch := omega) only [go_sem, seval, reduceCtorEq]) | refine aI (fun hc => ?_) fun hc => ?_ | simp (disch := omega) only [go_sem, seval, reduceCtorEq] | refine aO ?_ | refine aA ?_ ?_ | fail))
def vY (y : Yr) : Bool := decide (y.1 ≤ y.2) && wiY y.1 && wiY y.2
theorem vY_iff {y : Yr} : vY y = true ↔ y.1 ≤ y.2 ∧ -9999 ≤ y.1 ∧ y.2 ≤ 9999 := by
  unfold vY wiY
  simp only [Bool.and_eq_true, decide_eq_true_eq]
  omega
theorem x18 (y : Yr) : FnR Try.prog 18 [yv y] [.c (.B (vY y))] := by
  refine fn_walk code18 (by simp) ?_
  unfold vY
  (repeat' (first | refine Both.mk ?_ ?_ | ((first | refine aw ?_ | refine aD ?_ | refine aX ?_ | refine cT ?_ | refine cF ?_ | refine cR (x34 ..) ?_ | refine cG (x34 ..) ?_ | refine cD (x34 ..) ?_); try simp (disch := omega) only [go_sem, seval, reduceCtorEq]) | refine aI (fun hc => ?_) fun hc => ?_ | simp (disch := omega) only [go_sem, seval, reduceCtorEq] | refine aO ?_ | refine aC ?_ ?_ | refine aC' ?_ ?_ | refine aA ?_ ?_ | fail))
def in3 (n lo hi : Int) : Bool := decide (lo ≤ n) && decide (n ≤ hi)
theorem in3_iff {n lo hi : Int} : in3 n lo hi = true ↔ lo ≤ n ∧ n ≤ hi := by simp [in3]
theorem x35 (n lo hi : Int) : FnR Try.prog 35 [.I n, .I lo, .I hi] [.c (.B (in3 n lo hi))] := by
  refine fn_walk code35 (by simp) ?_
  unfold in3
  (repeat' (first | refine Both.mk ?_ ?_ | ((first | refine aw ?_ | refine aD ?_ | refine aX ?_ | refine cT ?_ | refine cF ?_); try simp (disch := omega) only [go_sem, seval, reduceCtorEq]) | refine aI (fun hc => ?_) fun hc => ?_ | simp (disch := omega) only [go_sem, seval, reduceCtorEq] | refine aO ?_ | refine aA ?_ ?_ | fail))
theorem x20 (n lo hi : Int) : FnR Try.prog 20 [.I n, .I lo, .I hi] [.c (.B (in3 n lo hi))] := by
  refine fn_walk code20 (by simp) ?_
  unfold in3
  (repeat' (first | refine Both.mk ?_ ?_ | ((first | refine aw ?_ | refine aD ?_ | refine aX ?_ | refine cT ?_ | refine cF ?_); try simp (disch := omega) only [go_sem, seval, reduceCtorEq]) | refine aI (fun hc => ?_) fun hc => ?_ | simp (disch := omega) only [go_sem, seval, reduceCtorEq] | refine aO ?_ | refine aA ?_ ?_ | fail))
theorem x37 (n : Int) : FnR Try.prog 37 [.I n, .I 9999] [.c (.B (wiY n))] := by
  refine fn_walk code37 (by simp) ?_
  unfold wiY
  (repeat' (first | refine Both.mk ?_ ?_ | ((first | refine aw ?_ | refine aD ?_ | refine aX ?_ | refine cT ?_ | refine cF ?_); try simp (disch := omega) only [go_sem, seval, reduceCtorEq]) | refine aI (fun hc => ?_) fun hc => ?_ | simp (disch := omega) only [go_sem, seval, reduceCtorEq] | refine aO ?_ | refine aA ?_ ?_ | fail))
theorem x22 (y : Yr) : FnR Try.prog 22 [yv y] [.c (.B (vY y))] := by
  refine fn_walk code22 (by simp) ?_
  unfold vY
  (repeat' (first | refine Both.mk ?_ ?_ | ((first | refine aw ?_ | refine aD ?_ | refine aX ?_ | refine cT ?_ | refine cF ?_ | refine cR (x37 ..) ?_ | refine cG (x37 ..) ?_ | refine cD (x37 ..) ?_); try simp (disch := omega) only [go_sem, seval, reduceCtorEq]) | refine aI (fun hc => ?_) fun hc => ?_ | simp (disch := omega) only [go_sem, seval, reduceCtorEq] | refine aO ?_ | refine aC ?_ ?_ | refine aC' ?_ ?_ | refine aA ?_ ?_ | fail))
def lsOk (l : List Yr) (i : Nat) : Bool := in3 (nth l i).1 1 99 && in3 (nth l i).2 1 999 && (decide (i = 0) || decide ((nth l (i - 1)).1 < (nth l i).1))
def lstB (l : List Yr) : Bool := (List.range l.length).all (lsOk l)
theorem all_no {n i : Nat} {p : Nat → Bool} (h : i < n) (hp : p i = false) : (List.range n).all p = false := by
  rw [List.all_eq_false]; exact ⟨i, List.mem_range.2 h, by simp [hp]⟩
theorem all_yes {n : Nat} {p : Nat → Bool} (h : ∀ i, i < n → p i = true) : (List.range n).all p = true := by
  rw [List.all_eq_true]; exact fun i hi => h i (List.mem_range.1 hi)
theorem all_get {n : Nat} {p : Nat → Bool} (h : (List.range n).all p = true) {i : Nat} (hi : i < n) : p i = true := List.all_eq_true.1 h i (List.mem_range.2 hi)
set_option maxHeartbeats 4000000 in
theorem x36 (l : List Yr) (hl : l.length ≤ 32) : FnR Try.prog 36 [.c (Yrs l), .I 1, .I 999] [.c (.B (lstB l))] := by
  refine fn_walk code36 (by simp) ?_
  (repeat' (first | refine Both.mk ?_ ?_ | ((first | refine aw ?_ | refine aD ?_ | refine aX ?_ | refine cT ?_ | refine cF ?_); try simp (disch := omega) only [go_sem, seval, reduceCtorEq]) | refine aI (fun hc => ?_) fun hc => ?_ | simp (disch := omega) only [go_sem, seval, reduceCtorEq] | refine aO ?_ | refine aA ?_ ?_ | fail))
  refine AW_loopK [0, 1, 2, 9, 10] [6, 7, 8, 11, 12, 13, 14, 15, 16, 17, 18, 19, 20, 21, 22, 23, 24, 25, 26, 27, 28, 29, 30, 31, 32, 33, 34, 35, 36, 37, 38, 39, 40, 41, 42, 43] (fun i : Nat => i ≤ l.length ∧ ∀ k, k < i → lsOk l k = true) (fun i => [(11, .I i)]) (fun _ => []) (fun i => l.length - i) 0 ⟨by omega, fun k hk => by omega⟩ ?_ ?_
  · simp (disch := omega) only [go_sem, seval, reduceCtorEq, Int.natCast_zero]
  · intro i hi
    obtain ⟨hi, hR⟩ := hi
    rcases Nat.lt_or_ge i l.length with hil | hil
    · have hge := getD_map yc l i [] hil
      have hge1 := getD_map yc l (i - 1) [] (by omega)
      have hkk : ((i : Int) < (l.length : Int)) = True := eq_true (by omega)
      have g1 := x35 (nth l i).1 1 99
      have g2 := x35 (nth l i).2 1 999
      have key : ∀ b, lsOk l i = b → b = false → lstB l = false := fun b hb h0 => all_no hil (hb.trans h0)
      rcases Nat.eq_zero_or_pos i with rfl | hi0
      · have h0 : (0 < ((0 : Nat) : Int)) = False := eq_false (by omega)
        have hk0 : ((0 : Int) < (l.length : Int)) = True := eq_true (by omega)
        cases h1 : in3 (nth l 0).1 1 99 <;> cases h2 : in3 (nth l 0).2 1 999 <;> rw [h1] at g1 <;> rw [h2] at g2
        all_goals try (have hb := key (lsOk l 0) rfl (by simp [lsOk, h1, h2]); rw [hb]; (repeat' (first | refine Both.mk ?_ ?_ | ((first | refine aw ?_ | refine aD ?_ | refine aX ?_ | refine cT ?_ | refine cF ?_ | refine cR (g1 ..) ?_ | refine cG (g1 ..) ?_ | refine cD (g1 ..) ?_ | refine cR (g2 ..) ?_ | refine cG (g2 ..) ?_ | refine cD (g2 ..) ?_); try simp (disch := omega) only [go_sem, seval, reduceCtorEq, hge, yc, Int.toNat_natCast, List.length_map, hkk, hk0, h0, Int.natCast_zero]) | refine aI (fun hc => ?_) fun hc => ?_ | simp (disch := omega) only [go_sem, seval, reduceCtorEq, hge, yc, Int.toNat_natCast, List.length_map, hkk, hk0, h0, Int.natCast_zero] | refine aO ?_ | refine aC ?_ ?_ | refine aC' ?_ ?_ | refine aA ?_ ?_ | fail)); done)
        (repeat' (first | refine Both.mk ?_ ?_ | ((first | refine aw ?_ | refine aD ?_ | refine aX ?_ | refine cT ?_ | refine cF ?_ | refine cR (g1 ..) ?_ | refine cG (g1 ..) ?_ | refine cD (g1 ..) ?_ | refine cR (g2 ..) ?_ | refine cG (g2 ..) ?_ | refine cD (g2 ..) ?_); try simp (disch := omega) only [go_sem, seval, reduceCtorEq, hge, yc, Int.toNat_natCast, List.length_map, hkk, hk0, h0, Int.natCast_zero]) | refine aI (fun hc => ?_) fun hc => ?_ | simp (disch := omega) only [go_sem, seval, reduceCtorEq, hge, yc, Int.toNat_natCast, List.length_map, hkk, hk0, h0, Int.natCast_zero] | refine aO ?_ | refine aC ?_ ?_ | refine aC' ?_ ?_ | refine aA ?_ ?_ | fail))
        refine .mk 1 ⟨by omega, fun k hk => ?_⟩ (by omega) ?_
        · obtain rfl : k = 0 := by omega
          simp [lsOk, h1, h2]
        · simp (disch := omega) only [go_sem, seval, reduceCtorEq, Int.natCast_zero, Int.zero_add, Int.natCast_one]
      · have h0 : ((0 : Int) < (i : Int)) = True := eq_true (by omega)
        have h00 : (i : Int) - 1 = ((i - 1 : Nat) : Int) := by omega
        have h01 : (((i - 1 : Nat) : Int) < (l.length : Int)) = True := eq_true (by omega)
        by_cases h3 : (nth l (i - 1)).1 < (nth l i).1
        · have h4 : ((nth l i).1 ≤ (nth l (i - 1)).1) = False := eq_false (by omega)
          cases h1 : in3 (nth l i).1 1 99 <;> cases h2 : in3 (nth l i).2 1 999 <;> rw [h1] at g1 <;> rw [h2] at g2
          all_goals try (have hb := key (lsOk l i) rfl (by simp [lsOk, h1, h2]); rw [hb]; (repeat' (first | refine Both.mk ?_ ?_ | ((first | refine aw ?_ | refine aD ?_ | refine aX ?_ | refine cT ?_ | refine cF ?_ | refine cR (g1 ..) ?_ | refine cG (g1 ..) ?_ | refine cD (g1 ..) ?_ | refine cR (g2 ..) ?_ | refine cG (g2 ..) ?_ | refine cD (g2 ..) ?_); try simp (disch := omega) only [go_sem, seval, reduceCtorEq, hge, hge1, yc, Int.toNat_natCast, List.length_map, hkk, h0, h00, h01, h4]) | refine aI (fun hc => ?_) fun hc => ?_ | simp (disch := omega) only [go_sem, seval, reduceCtorEq, hge, hge1, yc, Int.toNat_natCast, List.length_map, hkk, h0, h00, h01, h4] | refine aO ?_ | refine aC ?_ ?_ | refine aC' ?_ ?_ | refine aA ?_ ?_ | fail)); done)
          (repeat' (first | refine Both.mk ?_ ?_ | ((first | refine aw ?_ | refine aD ?_ | refine aX ?_ | refine cT ?_ | refine cF ?_ | refine cR (g1 ..) ?_ | refine cG (g1 ..) ?_ | refine cD (g1 ..) ?_ | refine cR (g2 ..) ?_ | refine cG (g2 ..) ?_ | refine cD (g2 ..) ?_); try simp (disch := omega) only [go_sem, seval, reduceCtorEq, hge, hge1, yc, Int.toNat_natCast, List.length_map, hkk, h0, h00, h01, h4]) | refine aI (fun hc => ?_) fun hc => ?_ | simp (disch := omega) only [go_sem, seval, reduceCtorEq, hge, hge1, yc, Int.toNat_natCast, List.length_map, hkk, h0, h00, h01, h4] | refine aO ?_ | refine aC ?_ ?_ | refine aC' ?_ ?_ | refine aA ?_ ?_ | fail))
          refine .mk (i + 1) ⟨by omega, fun k hk => ?_⟩ (by omega) ?_
          · rcases Nat.lt_succ_iff_lt_or_eq.1 hk with hk | rfl
            · exact hR k hk
            · simp [lsOk, h1, h2, h3]
          · simp (disch := omega) only [go_sem, seval, reduceCtorEq, Int.natCast_add, Int.natCast_one]
        · have h4 : ((nth l i).1 ≤ (nth l (i - 1)).1) = True := eq_true (by omega)
          have hb := key (lsOk l i) rfl (by simp [lsOk, h3]; omega)
          rw [hb]
          cases h1 : in3 (nth l i).1 1 99 <;> cases h2 : in3 (nth l i).2 1 999 <;> rw [h1] at g1 <;> rw [h2] at g2
          all_goals (repeat' (first | refine Both.mk ?_ ?_ | ((first | refine aw ?_ | refine aD ?_ | refine aX ?_ | refine cT ?_ | refine cF ?_ | refine cR (g1 ..) ?_ | refine cG (g1 ..) ?_ | refine cD (g1 ..) ?_ | refine cR (g2 ..) ?_ | refine cG (g2 ..) ?_ | refine cD (g2 ..) ?_); try simp (disch := omega) only [go_sem, seval, reduceCtorEq, hge, hge1, yc, Int.toNat_natCast, List.length_map, hkk, h0, h00, h01, h4]) | refine aI (fun hc => ?_) fun hc => ?_ | simp (disch := omega) only [go_sem, seval, reduceCtorEq, hge, hge1, yc, Int.toNat_natCast, List.length_map, hkk, h0, h00, h01, h4] | refine aO ?_ | refine aC ?_ ?_ | refine aC' ?_ ?_ | refine aA ?_ ?_ | fail))
    · obtain rfl : i = l.length := by omega
      have hkk : ((l.length : Int) < (l.length : Int)) = False := eq_false (by omega)
      have hb : lstB l = true := all_yes hR
      rw [hb]
      (repeat' (first | refine Both.mk ?_ ?_ | ((first | refine aw ?_ | refine aD ?_ | refine aX ?_ | refine cT ?_ | refine cF ?_); try simp (disch := omega) only [go_sem, seval, reduceCtorEq, List.length_map, hkk]) | refine aI (fun hc => ?_) fun hc => ?_ | simp (disch := omega) only [go_sem, seval, reduceCtorEq, List.length_map, hkk] | refine aO ?_ | refine aA ?_ ?_ | fail))
def vH (h : Hd) : Bool := in3 h.id 1 99 && in3 h.cs.length 1 32 && lstB h.cs && vY h.cl
theorem x19 (h : Hd) : FnR Try.prog 19 [hdv h] [.c (.B (vH h))] := by
  have g1 := x35 h.id 1 99
  have g2 := x35 h.cs.length 1 32
  have g3 := x18 h.cl
  unfold vH
  cases h1 : in3 h.id 1 99 with
  | false =>
    rw [h1] at g1
    refine fn_walk code19 (by simp) ?_
    (repeat' (first | refine Both.mk ?_ ?_ | ((first | refine aw ?_ | refine aD ?_ | refine aX ?_ | refine cT ?_ | refine cF ?_ | refine cR (g1 ..) ?_ | refine cG (g1 ..) ?_ | refine cD (g1 ..) ?_); try simp (disch := omega) only [go_sem, seval, reduceCtorEq, Bool.false_and]) | refine aI (fun hc => ?_) fun hc => ?_ | simp (disch := omega) only [go_sem, seval, reduceCtorEq, Bool.false_and] | refine aO ?_ | refine aC ?_ ?_ | refine aC' ?_ ?_ | refine aA ?_ ?_ | fail))
  | true =>
    rw [h1] at g1
    cases h2 : in3 h.cs.length 1 32 with
    | false =>
      rw [h2] at g2
      refine fn_walk code19 (by simp) ?_
      (repeat' (first | refine Both.mk ?_ ?_ | ((first | refine aw ?_ | refine aD ?_ | refine aX ?_ | refine cT ?_ | refine cF ?_ | refine cR (g1 ..) ?_ | refine cG (g1 ..) ?_ | refine cD (g1 ..) ?_ | refine cR (g2 ..) ?_ | refine cG (g2 ..) ?_ | refine cD (g2 ..) ?_); try simp (disch := omega) only [go_sem, seval, reduceCtorEq, Bool.false_and, Bool.true_and, List.length_map]) | refine aI (fun hc => ?_) fun hc => ?_ | simp (disch := omega) only [go_sem, seval, reduceCtorEq, Bool.false_and, Bool.true_and, List.length_map] | refine aO ?_ | refine aC ?_ ?_ | refine aC' ?_ ?_ | refine aA ?_ ?_ | fail))
    | true =>
      rw [h2] at g2
      have g4 := x36 h.cs (by have := in3_iff.1 h2; omega)
      cases h3 : lstB h.cs <;> rw [h3] at g4 <;> cases h5 : vY h.cl <;> rw [h5] at g3 <;> refine fn_walk code19 (by simp) ?_ <;> (repeat' (first | refine Both.mk ?_ ?_ | ((first | refine aw ?_ | refine aD ?_ | refine aX ?_ | refine cT ?_ | refine cF ?_ | refine cR (g1 ..) ?_ | refine cG (g1 ..) ?_ | refine cD (g1 ..) ?_ | refine cR (g2 ..) ?_ | refine cG (g2 ..) ?_ | refine cD (g2 ..) ?_ | refine cR (g4 ..) ?_ | refine cG (g4 ..) ?_ | refine cD (g4 ..) ?_ | refine cR (g3 ..) ?_ | refine cG (g3 ..) ?_ | refine cD (g3 ..) ?_); try simp (disch := omega) only [go_sem, seval, reduceCtorEq, Bool.false_and, Bool.true_and, List.length_map]) | refine aI (fun hc => ?_) fun hc => ?_ | simp (disch := omega) only [go_sem, seval, reduceCtorEq, Bool.false_and, Bool.true_and, List.length_map] | refine aO ?_ | refine aC ?_ ?_ | refine aC' ?_ ?_ | refine aA ?_ ?_ | fail))
end Go.Proofs.Ytdmngdphgnnoiaa

open Go Go.AL Go.RowKit
namespace Go.Proofs.Ytdmngdphgnnoiaa
set_option maxRecDepth 20000
theorem lst_asc {l : List Yr} (h : lstB l = true) : ∀ i, i < l.length → 0 < i → (nth l (i - 1)).1 < (nth l i).1 := fun i hi h0 => by
  have := all_get h hi
  unfold lsOk at this
  simp only [Bool.and_eq_true, Bool.or_eq_true, decide_eq_true_eq] at this
  omega
theorem lst_in {l : List Yr} (h : lstB l = true) : ∀ i, i < l.length → 1 ≤ (nth l i).1 ∧ (nth l i).1 ≤ 99 ∧ 1 ≤ (nth l i).2 ∧ (nth l i).2 ≤ 999 := fun i hi => by
  have := all_get h hi
  unfold lsOk at this
  simp only [Bool.and_eq_true, in3_iff] at this
  omega
theorem lst_lt {l : List Yr} (h : lstB l = true) : ∀ d i, i + d + 1 < l.length → (nth l i).1 + d < (nth l (i + d + 1)).1
  | 0, i, hi => by have := lst_asc h (i + 0 + 1) hi (by omega); simp at this ⊢; exact this
  | d + 1, i, hi => by
    have h1 := lst_lt h d i (by omega)
    have h2 := lst_asc h (i + (d + 1) + 1) hi (by omega)
    rw [show i + (d + 1) + 1 - 1 = i + d + 1 by omega] at h2
    omega
theorem vH_iff {h : Hd} : vH h = true ↔ (1 ≤ h.id ∧ h.id ≤ 99) ∧ (1 ≤ h.cs.length ∧ h.cs.length ≤ 32) ∧ lstB h.cs = true ∧ vY h.cl = true := by
  unfold vH
  simp only [Bool.and_eq_true, in3_iff]
  constructor
  · rintro ⟨⟨⟨a, b⟩, c⟩, d⟩; exact ⟨a, ⟨by omega, by omega⟩, c, d⟩
  · rintro ⟨a, b, c, d⟩; exact ⟨⟨⟨a, by omega, by omega⟩, c⟩, d⟩
theorem x21 (l : List Yr) (hl : l.length ≤ 32) (h : lstB l = true) : FnR Try.prog 21 [.c (Yrs l), .I 32] [.c (.B true)] := by
  refine fn_walk code21 (by simp) ?_
  (repeat' (first | refine Both.mk ?_ ?_ | ((first | refine aw ?_ | refine aD ?_ | refine aX ?_ | refine cT ?_ | refine cF ?_); try simp (disch := omega) only [go_sem, seval, reduceCtorEq]) | refine aI (fun hc => ?_) fun hc => ?_ | simp (disch := omega) only [go_sem, seval, reduceCtorEq] | refine aO ?_ | refine aA ?_ ?_ | fail))
  refine AW_loopK [0, 1] [4, 5, 6, 7, 8, 9, 10, 11, 12, 13, 14, 15, 16, 17, 18, 19, 20, 21, 22, 23] (fun i : Nat => 1 ≤ i ∧ (i ≤ l.length ∨ i = 1)) (fun i => [(5, .I i)]) (fun _ => []) (fun i => l.length - i) 1 (by omega) ?_ ?_
  · simp (disch := omega) only [go_sem, seval, reduceCtorEq, Int.natCast_one]
  · intro i hi
    rcases Nat.lt_or_ge i l.length with hil | hil
    · have hge := getD_map yc l i [] hil
      have hge1 := getD_map yc l (i - 1) [] (by omega)
      have hkk : ((i : Int) < (l.length : Int)) = True := eq_true (by omega)
      have h00 : (i : Int) - 1 = ((i - 1 : Nat) : Int) := by omega
      have h01 : (((i - 1 : Nat) : Int) < (l.length : Int)) = True := eq_true (by omega)
      have h4 : ((nth l i).1 ≤ (nth l (i - 1)).1) = False := eq_false (by have := lst_asc h i hil (by omega); omega)
      (repeat' (first | refine Both.mk ?_ ?_ | ((first | refine aw ?_ | refine aD ?_ | refine aX ?_ | refine cT ?_ | refine cF ?_); try simp (disch := omega) only [go_sem, seval, reduceCtorEq, hge, hge1, yc, Int.toNat_natCast, List.length_map, hkk, h00, h01, h4]) | refine aI (fun hc => ?_) fun hc => ?_ | simp (disch := omega) only [go_sem, seval, reduceCtorEq, hge, hge1, yc, Int.toNat_natCast, List.length_map, hkk, h00, h01, h4] | refine aO ?_ | refine aA ?_ ?_ | fail))
      refine .mk (i + 1) (by omega) (by omega) ?_
      simp (disch := omega) only [go_sem, seval, reduceCtorEq, Int.natCast_add, Int.natCast_one]
    · have hkk : ((i : Int) < (l.length : Int)) = False := eq_false (by omega)
      have h32 : decide ((l.length : Int) ≤ 32) = true := decide_eq_true (by omega)
      (repeat' (first | refine Both.mk ?_ ?_ | ((first | refine aw ?_ | refine aD ?_ | refine aX ?_ | refine cT ?_ | refine cF ?_); try simp (disch := omega) only [go_sem, seval, reduceCtorEq, List.length_map, hkk, h32]) | refine aI (fun hc => ?_) fun hc => ?_ | simp (disch := omega) only [go_sem, seval, reduceCtorEq, List.length_map, hkk, h32] | refine aO ?_ | refine aA ?_ ?_ | fail))
      all_goals first | omega | skip
set_option maxHeartbeats 4000000 in
theorem x6 (h : Hd) (hv : vH h = true) : FnR Try.prog 6 [hdv h] [.c (.B true)] := by
  obtain ⟨a, b, c, d⟩ := vH_iff.1 hv
  have g1 := x20 h.id 1 99
  rw [in3_iff.2 a] at g1
  have g2 := x21 h.cs (by omega) c
  have g3 := x22 h.cl
  rw [d] at g3
  have hl0 : ((h.cs.length : Int) = 0) = False := eq_false (by omega)
  refine fn_walk code6 (by simp) ?_
  (repeat' (first | refine Both.mk ?_ ?_ | ((first | refine aw ?_ | refine aD ?_ | refine aX ?_ | refine cT ?_ | refine cF ?_ | refine cR (g1 ..) ?_ | refine cG (g1 ..) ?_ | refine cR (g2 ..) ?_ | refine cG (g2 ..) ?_ | refine cR (g3 ..) ?_ | refine cG (g3 ..) ?_); try simp (disch := omega) only [go_sem, seval, reduceCtorEq, List.length_map, hl0]) | refine aI (fun hc => ?_) fun hc => ?_ | simp (disch := omega) only [go_sem, seval, reduceCtorEq, List.length_map, hl0] | refine aO ?_ | refine aC ?_ ?_ | refine aC' ?_ ?_ | refine aA ?_ ?_ | fail))
  refine AW_loopK [1] [2, 3, 26, 27, 28, 29, 30, 31, 32, 33, 34, 35, 36, 37, 38, 39, 40, 41, 42, 43, 44, 45, 46, 47, 48, 49, 50] (fun i : Nat => i ≤ h.cs.length) (fun i => [(3, .I i)]) (fun _ => []) (fun i => h.cs.length - i) 0 (by omega) ?_ ?_
  · simp (disch := omega) only [go_sem, seval, reduceCtorEq, Int.natCast_zero]
  · intro i hi
    rcases Nat.lt_or_ge i h.cs.length with hil | hil
    · have hge := getD_map yc h.cs i [] hil
      have hkk : ((i : Int) < (h.cs.length : Int)) = True := eq_true (by omega)
      obtain ⟨e1, e2, e3, e4⟩ := lst_in c i hil
      have g4 := x20 (nth h.cs i).1 1 99
      have g5 := x20 (nth h.cs i).2 1 999
      rw [in3_iff.2 ⟨e1, e2⟩] at g4
      rw [in3_iff.2 ⟨e3, e4⟩] at g5
      (repeat' (first | refine Both.mk ?_ ?_ | ((first | refine aw ?_ | refine aD ?_ | refine aX ?_ | refine cT ?_ | refine cF ?_ | refine cR (g4 ..) ?_ | refine cG (g4 ..) ?_ | refine cR (g5 ..) ?_ | refine cG (g5 ..) ?_); try simp (disch := omega) only [go_sem, seval, reduceCtorEq, hge, yc, Int.toNat_natCast, List.length_map, hkk]) | refine aI (fun hc => ?_) fun hc => ?_ | simp (disch := omega) only [go_sem, seval, reduceCtorEq, hge, yc, Int.toNat_natCast, List.length_map, hkk] | refine aO ?_ | refine aC ?_ ?_ | refine aC' ?_ ?_ | refine aA ?_ ?_ | fail))
      refine .mk (i + 1) (by omega) (by omega) ?_
      simp (disch := omega) only [go_sem, seval, reduceCtorEq, Int.natCast_add, Int.natCast_one]
    · obtain rfl : i = h.cs.length := by omega
      have hkk : ((h.cs.length : Int) < (h.cs.length : Int)) = False := eq_false (by omega)
      (repeat' (first | refine Both.mk ?_ ?_ | ((first | refine aw ?_ | refine aD ?_ | refine aX ?_ | refine cT ?_ | refine cF ?_); try simp (disch := omega) only [go_sem, seval, reduceCtorEq, List.length_map, hkk]) | refine aI (fun hc => ?_) fun hc => ?_ | simp (disch := omega) only [go_sem, seval, reduceCtorEq, List.length_map, hkk] | refine aO ?_ | refine aA ?_ ?_ | fail))
theorem x39 (e : Yr) (k : Int) : FnR Try.prog 39 [yv e, .dptr [.I k]] [.c (.B (decide (e.1 = k)))] := by
  refine fn_walk code39 (by simp) ?_
  (repeat' (first | refine Both.mk ?_ ?_ | ((first | refine aw ?_ | refine aD ?_ | refine aX ?_ | refine cT ?_ | refine cF ?_); try simp (disch := omega) only [go_sem, seval, reduceCtorEq]) | refine aI (fun hc => ?_) fun hc => ?_ | simp (disch := omega) only [go_sem, seval, reduceCtorEq] | refine aO ?_ | refine aA ?_ ?_ | fail))
theorem x38 (l : List Yr) (hl : l.length ≤ 32) (k : Int) (t : Nat) (ht : t < l.length) (hk : (nth l t).1 = k) (hn : ∀ i, i < t → (nth l i).1 ≠ k) : FnR Try.prog 38 [.c (Yrs l), .fn 39 [.dptr [.I k]]] [.c (.I t)] := by
  refine fn_walk code38 (by simp) ?_
  (repeat' (first | refine Both.mk ?_ ?_ | ((first | refine aw ?_ | refine aD ?_ | refine aX ?_ | refine cT ?_ | refine cF ?_); try simp (disch := omega) only [go_sem, seval, reduceCtorEq]) | refine aI (fun hc => ?_) fun hc => ?_ | simp (disch := omega) only [go_sem, seval, reduceCtorEq] | refine aO ?_ | refine aA ?_ ?_ | fail))
  refine AW_loopK [0, 1, 7] [4, 5, 8, 9, 10, 11, 12, 13, 14, 15, 16, 17, 18] (fun i : Nat => i ≤ t) (fun i => [(8, .I i)]) (fun _ => []) (fun i => l.length - i) 0 (by omega) ?_ ?_
  · simp (disch := omega) only [go_sem, seval, reduceCtorEq, Int.natCast_zero]
  · intro i hi
    have hil : i < l.length := by omega
    have g := x39 (nth l i) k
    have hge := getD_map yc l i [] hil
    have hkk : ((i : Int) < (l.length : Int)) = True := eq_true (by omega)
    rcases Nat.lt_or_ge i t with hik | hik
    · rw [decide_eq_false (hn i hik)] at g
      (repeat' (first | refine Both.mk ?_ ?_ | ((first | refine aw ?_ | refine aD ?_ | refine aX ?_ | refine cT ?_ | refine cF ?_ | refine cR (g ..) ?_ | refine cG (g ..) ?_); try simp (disch := omega) only [go_sem, seval, reduceCtorEq, hge, yc, Int.toNat_natCast, List.length_map, hkk]) | refine aI (fun hc => ?_) fun hc => ?_ | simp (disch := omega) only [go_sem, seval, reduceCtorEq, hge, yc, Int.toNat_natCast, List.length_map, hkk] | refine aO ?_ | refine aC ?_ ?_ | refine aC' ?_ ?_ | refine aA ?_ ?_ | fail))
      refine .mk (i + 1) (by omega) (by omega) ?_
      simp (disch := omega) only [go_sem, seval, reduceCtorEq, Int.natCast_add, Int.natCast_one]
    · obtain rfl : i = t := by omega
      rw [decide_eq_true hk] at g
      (repeat' (first | refine Both.mk ?_ ?_ | ((first | refine aw ?_ | refine aD ?_ | refine aX ?_ | refine cT ?_ | refine cF ?_ | refine cR (g ..) ?_ | refine cG (g ..) ?_); try simp (disch := omega) only [go_sem, seval, reduceCtorEq, hge, yc, Int.toNat_natCast, List.length_map, hkk]) | refine aI (fun hc => ?_) fun hc => ?_ | simp (disch := omega) only [go_sem, seval, reduceCtorEq, hge, yc, Int.toNat_natCast, List.length_map, hkk] | refine aO ?_ | refine aC ?_ ?_ | refine aC' ?_ ?_ | refine aA ?_ ?_ | fail))
theorem x23 (l : List Yr) (hl : l.length ≤ 32) (k : Int) (t : Nat) (ht : t < l.length) (hk : (nth l t).1 = k) (hn : ∀ i, i < t → (nth l i).1 ≠ k) : FnR Try.prog 23 [.c (Yrs l), .I k] [.c (.I (nth l t).2), .c (.B true)] := by
  have g := x38 l hl k t ht hk hn
  have hge := getD_map yc l t [] ht
  have hkk : ((t : Int) < (l.length : Int)) = True := eq_true (by omega)
  have h0 : ((t : Int) < 0) = False := eq_false (by omega)
  refine fn_walk code23 (by simp) ?_
  (repeat' (first | refine Both.mk ?_ ?_ | ((first | refine aw ?_ | refine aD ?_ | refine aX ?_ | refine cT ?_ | refine cF ?_ | refine cR (g ..) ?_ | refine cG (g ..) ?_); try simp (disch := omega) only [go_sem, seval, reduceCtorEq, hge, yc, Int.toNat_natCast, List.length_map, hkk, h0]) | refine aI (fun hc => ?_) fun hc => ?_ | simp (disch := omega) only [go_sem, seval, reduceCtorEq, hge, yc, Int.toNat_natCast, List.length_map, hkk, h0] | refine aO ?_ | refine aC ?_ ?_ | refine aC' ?_ ?_ | refine aA ?_ ?_ | fail))
theorem x7 (h : Hd) (hv : vH h = true) (t : Nat) (ht : t < h.cs.length) : FnR Try.prog 7 [hdv h, .I (nth h.cs t).1] [.c (.I (nth h.cs t).2)] := by
  obtain ⟨a, b, c, d⟩ := vH_iff.1 hv
  have g1 := x19 h
  rw [hv] at g1
  have g2 := x23 h.cs (by omega) (nth h.cs t).1 t ht rfl fun i hi he => by
    have := lst_lt c (t - i - 1) i (by omega)
    rw [show i + (t - i - 1) + 1 = t by omega] at this
    omega
  refine fn_walk code7 (by simp) ?_
  (repeat' (first | refine Both.mk ?_ ?_ | ((first | refine aw ?_ | refine aD ?_ | refine aX ?_ | refine cT ?_ | refine cF ?_ | refine cR (g1 ..) ?_ | refine cG (g1 ..) ?_ | refine cR (g2 ..) ?_ | refine cG (g2 ..) ?_); try simp (disch := omega) only [go_sem, seval, reduceCtorEq]) | refine aI (fun hc => ?_) fun hc => ?_ | simp (disch := omega) only [go_sem, seval, reduceCtorEq] | refine aO ?_ | refine aC ?_ ?_ | refine aC' ?_ ?_ | refine aA ?_ ?_ | fail))
end Go.Proofs.Ytdmngdphgnnoiaa

open Go Go.AL Go.RowKit
namespace Go.Proofs.Ytdmngdphgnnoiaa
set_option maxRecDepth 20000
/- coinage/dating.Valid -/
abbrev c5_1 : AC := .reg [⟨(some 1), .box 26 (some 3) (.t 0), none⟩,
  ⟨(some 2), .mv (.k (.B false)), none⟩] false
abbrev c5_2 : AC := .reg [⟨(some 10), .fad 0 (.t 1), none⟩,
  ⟨(some 11), .ld none (.t 10), none⟩,
  ⟨(some 12), .len (.t 11), none⟩,
  ⟨(some 3), .mv (.t 12), none⟩] false
abbrev c5_3 : AC := .reg [⟨(some 13), .mv (.t 3), none⟩,
  ⟨(some 14), .bin .gtr (.t 13) (.k (.I 8)), none⟩,
  ⟨(some 15), .mv (.t 14), none⟩,
  ⟨(some 16), .fad 1 (.t 1), (some (15, false))⟩,
  ⟨(some 17), .ld none (.t 16), (some (15, false))⟩,
  ⟨(some 18), .len (.t 17), (some (15, false))⟩,
  ⟨(some 19), .bin .gtr (.t 18) (.k (.I 6)), (some (15, false))⟩,
  ⟨(some 20), .pick (.t 15) (.k (.B true)) (.t 19), none⟩,
  ⟨(some 21), .mv (.t 20), none⟩,
  ⟨(some 22), .fad 2 (.t 1), (some (21, false))⟩,
  ⟨(some 23), .ld none (.t 22), (some (21, false))⟩,
  ⟨(some 24), .len (.t 23), (some (21, false))⟩,
  ⟨(some 25), .bin .gtr (.t 24) (.k (.I 16)), (some (21, false))⟩,
  ⟨(some 26), .pick (.t 21) (.k (.B true)) (.t 25), none⟩] false
abbrev c5_4 : AC := .reg [⟨(some 2), .mv (.k (.B false)), none⟩] false
abbrev c5_5 : AC := .seq c5_4 .ret
abbrev c5_6 : AC := .cond (.t 26) c5_5 .skip
abbrev c5_7 : AC := .seq c5_3 c5_6
abbrev c5_8 : AC := .reg [⟨(some 27), .fad 0 (.t 1), none⟩,
  ⟨(some 28), .ld none (.t 27), none⟩,
  ⟨(some 29), .len (.t 28), none⟩,
  ⟨(some 30), .mv (.k (.I 0)), none⟩] false
abbrev c5_9 : AC := .reg [⟨(some 31), .bin .lss (.t 30) (.t 29), none⟩] false
abbrev c5_10 : AC := .cond (.t 31) .skip (.exit 0)
abbrev c5_11 : AC := .reg [⟨(some 32), .iad 2 (.t 28) (.t 30), none⟩,
  ⟨(some 33), .ld (some 2) (.t 32), none⟩,
  ⟨(some 5), .alloc 32 [(.I 0), (.I 0)], none⟩,
  ⟨none, .st (some 2) (.t 5) (.t 33), none⟩] false
abbrev c5_12 : AC := .reg [⟨(some 34), .ld (some 2) (.t 5), none⟩,
  ⟨(some 35), .call 18 [(.t 34)], none⟩,
  ⟨(some 36), .not (.t 35), none⟩] false
abbrev c5_13 : AC := .reg [⟨(some 2), .mv (.k (.B false)), none⟩] false
abbrev c5_14 : AC := .seq c5_13 .ret
abbrev c5_15 : AC := .cond (.t 36) c5_14 .skip
abbrev c5_16 : AC := .seq c5_12 c5_15
abbrev c5_17 : AC := .seq c5_11 c5_16
abbrev c5_18 : AC := .block 1 c5_17
abbrev c5_19 : AC := .reg [⟨(some 37), .bin .add (.t 30) (.k (.I 1)), none⟩,
  ⟨(some 30), .mv (.t 37), none⟩] false
abbrev c5_20 : AC := .seq c5_18 c5_19
abbrev c5_21 : AC := .seq c5_10 c5_20
abbrev c5_22 : AC := .seq c5_9 c5_21
abbrev c5_23 : AC := .loop c5_22
abbrev c5_24 : AC := .block 0 c5_23
abbrev c5_25 : AC := .seq c5_8 c5_24
abbrev c5_26 : AC := .reg [⟨(some 38), .fad 1 (.t 1), none⟩,
  ⟨(some 39), .ld none (.t 38), none⟩,
  ⟨(some 40), .len (.t 39), none⟩,
  ⟨(some 41), .mv (.k (.I 0)), none⟩] false
abbrev c5_27 : AC := .reg [⟨(some 42), .bin .lss (.t 41) (.t 40), none⟩] false
abbrev c5_28 : AC := .cond (.t 42) .skip (.exit 2)
abbrev c5_29 : AC := .reg [⟨(some 43), .iad 4 (.t 39) (.t 41), none⟩,
  ⟨(some 44), .ld (some 4) (.t 43), none⟩,
  ⟨(some 7), .alloc 34 [(.I 0), (.c .nil), (.I 0), (.I 0)], none⟩,
  ⟨none, .st (some 4) (.t 7) (.t 44), none⟩] false
abbrev c5_30 : AC := .reg [⟨(some 45), .ld (some 4) (.t 7), none⟩,
  ⟨(some 46), .call 19 [(.t 45)], none⟩,
  ⟨(some 47), .not (.t 46), none⟩,
  ⟨(some 48), .mv (.t 47), none⟩,
  ⟨(some 49), .fad 1 (.t 7), (some (48, false))⟩,
  ⟨(some 50), .ld none (.t 49), (some (48, false))⟩,
  ⟨(some 51), .fad 1 (.t 7), (some (48, false))⟩,
  ⟨(some 52), .ld none (.t 51), (some (48, false))⟩,
  ⟨(some 53), .len (.t 52), (some (48, false))⟩,
  ⟨(some 54), .bin .sub (.t 53) (.k (.I 1)), (some (48, false))⟩,
  ⟨(some 55), .iad 2 (.t 50) (.t 54), (some (48, false))⟩,
  ⟨(some 56), .fad 0 (.t 55), (some (48, false))⟩,
  ⟨(some 57), .ld none (.t 56), (some (48, false))⟩,
  ⟨(some 58), .mv (.t 3), (some (48, false))⟩,
  ⟨(some 59), .bin .gtr (.t 57) (.t 58), (some (48, false))⟩,
  ⟨(some 60), .pick (.t 48) (.k (.B true)) (.t 59), none⟩] false
abbrev c5_31 : AC := .reg [⟨(some 2), .mv (.k (.B false)), none⟩] false
abbrev c5_32 : AC := .seq c5_31 .ret
abbrev c5_33 : AC := .cond (.t 60) c5_32 .skip
abbrev c5_34 : AC := .seq c5_30 c5_33
abbrev c5_35 : AC := .seq c5_29 c5_34
abbrev c5_36 : AC := .block 3 c5_35
abbrev c5_37 : AC := .reg [⟨(some 61), .bin .add (.t 41) (.k (.I 1)), none⟩,
  ⟨(some 41), .mv (.t 61), none⟩] false
abbrev c5_38 : AC := .seq c5_36 c5_37
abbrev c5_39 : AC := .seq c5_28 c5_38
abbrev c5_40 : AC := .seq c5_27 c5_39
abbrev c5_41 : AC := .loop c5_40
abbrev c5_42 : AC := .block 2 c5_41
abbrev c5_43 : AC := .seq c5_26 c5_42
abbrev c5_44 : AC := .reg [⟨(some 62), .fad 2 (.t 1), none⟩,
  ⟨(some 63), .ld none (.t 62), none⟩,
  ⟨(some 64), .len (.t 63), none⟩,
  ⟨(some 65), .mv (.k (.I 0)), none⟩] false
abbrev c5_45 : AC := .reg [⟨(some 66), .bin .lss (.t 65) (.t 64), none⟩] false
abbrev c5_46 : AC := .cond (.t 66) .skip (.exit 4)
abbrev c5_47 : AC := .reg [⟨(some 67), .iad 3 (.t 63) (.t 65), none⟩,
  ⟨(some 68), .ld (some 3) (.t 67), none⟩,
  ⟨(some 9), .alloc 55 [(.I 0), (.I 0), (.I 0)], none⟩,
  ⟨none, .st (some 3) (.t 9) (.t 68), none⟩] false
abbrev c5_48 : AC := .reg [⟨(some 69), .fad 0 (.t 9), none⟩,
  ⟨(some 70), .ld none (.t 69), none⟩,
  ⟨(some 71), .bin .lss (.t 70) (.k (.I 1)), none⟩,
  ⟨(some 72), .mv (.t 71), none⟩,
  ⟨(some 73), .fad 0 (.t 9), (some (72, false))⟩,
  ⟨(some 74), .ld none (.t 73), (some (72, false))⟩,
  ⟨(some 75), .mv (.t 3), (some (72, false))⟩,
  ⟨(some 76), .bin .gtr (.t 74) (.t 75), (some (72, false))⟩,
  ⟨(some 77), .pick (.t 72) (.k (.B true)) (.t 76), none⟩,
  ⟨(some 78), .mv (.t 77), none⟩,
  ⟨(some 79), .fad 1 (.t 9), (some (78, false))⟩,
  ⟨(some 80), .ld none (.t 79), (some (78, false))⟩,
  ⟨(some 81), .bin .lss (.t 80) (.k (.I 1)), (some (78, false))⟩,
  ⟨(some 82), .pick (.t 78) (.k (.B true)) (.t 81), none⟩,
  ⟨(some 83), .mv (.t 82), none⟩,
  ⟨(some 84), .fad 1 (.t 9), (some (83, false))⟩,
  ⟨(some 85), .ld none (.t 84), (some (83, false))⟩,
  ⟨(some 86), .mv (.t 3), (some (83, false))⟩,
  ⟨(some 87), .bin .gtr (.t 85) (.t 86), (some (83, false))⟩,
  ⟨(some 88), .pick (.t 83) (.k (.B true)) (.t 87), none⟩,
  ⟨(some 89), .mv (.t 88), none⟩,
  ⟨(some 90), .fad 0 (.t 9), (some (89, false))⟩,
  ⟨(some 91), .ld none (.t 90), (some (89, false))⟩,
  ⟨(some 92), .fad 1 (.t 9), (some (89, false))⟩,
  ⟨(some 93), .ld none (.t 92), (some (89, false))⟩,
  ⟨(some 94), .bin .eql (.t 91) (.t 93), (some (89, false))⟩,
  ⟨(some 95), .pick (.t 89) (.k (.B true)) (.t 94), none⟩,
  ⟨(some 96), .mv (.t 95), none⟩,
  ⟨(some 97), .fad 2 (.t 9), (some (96, false))⟩,
  ⟨(some 98), .ld none (.t 97), (some (96, false))⟩,
  ⟨(some 99), .bin .lss (.t 98) (.k (.I (-20000))), (some (96, false))⟩,
  ⟨(some 100), .pick (.t 96) (.k (.B true)) (.t 99), none⟩,
  ⟨(some 101), .mv (.t 100), none⟩,
  ⟨(some 102), .fad 2 (.t 9), (some (101, false))⟩,
  ⟨(some 103), .ld none (.t 102), (some (101, false))⟩,
  ⟨(some 104), .bin .gtr (.t 103) (.k (.I 20000)), (some (101, false))⟩,
  ⟨(some 105), .pick (.t 101) (.k (.B true)) (.t 104), none⟩] false
abbrev c5_49 : AC := .reg [⟨(some 2), .mv (.k (.B false)), none⟩] false
abbrev c5_50 : AC := .seq c5_49 .ret
abbrev c5_51 : AC := .cond (.t 105) c5_50 .skip
abbrev c5_52 : AC := .seq c5_48 c5_51
abbrev c5_53 : AC := .seq c5_47 c5_52
abbrev c5_54 : AC := .block 5 c5_53
abbrev c5_55 : AC := .reg [⟨(some 106), .bin .add (.t 65) (.k (.I 1)), none⟩,
  ⟨(some 65), .mv (.t 106), none⟩] false
abbrev c5_56 : AC := .seq c5_54 c5_55
abbrev c5_57 : AC := .seq c5_46 c5_56
abbrev c5_58 : AC := .seq c5_45 c5_57
abbrev c5_59 : AC := .loop c5_58
abbrev c5_60 : AC := .block 4 c5_59
abbrev c5_61 : AC := .seq c5_44 c5_60
abbrev c5_62 : AC := .reg [⟨(some 2), .mv (.k (.B true)), none⟩] false
abbrev c5_63 : AC := .seq c5_62 .ret
abbrev c5_64 : AC := .seq c5_61 c5_63
abbrev c5_65 : AC := .seq c5_43 c5_64
abbrev c5_66 : AC := .seq c5_25 c5_65
abbrev c5_67 : AC := .seq c5_7 c5_66
abbrev c5_68 : AC := .seq c5_2 c5_67
abbrev c5_69 : AC := .seq c5_1 c5_68
abbrev c5 : AC := c5_69
theorem code5 : fnCode Try.prog 5 = some (c5, [2], 107) := by kernel_rfl
structure Gp where
  (i j c : Int)
deriving Inhabited
abbrev gpc (g : Gp) : List CD := [.I g.i, .I g.j, .I g.c]
abbrev Gps (l : List Gp) : CD := .sl 3 (l.map gpc)
structure Ch where
  (ty : List Yr) (ho : List Hd) (ga : List Gp)
abbrev chv (c : Ch) : AV := .agg [.c (Yrs c.ty), .c (.sl 4 (c.ho.map hdc)), .c (Gps c.ga)]
def hOk (n : Nat) (h : Hd) : Bool := vH h && decide ((nth h.cs (h.cs.length - 1)).1 ≤ n)
def gOk (n : Nat) (g : Gp) : Bool := decide (1 ≤ g.i ∧ g.i ≤ n ∧ 1 ≤ g.j ∧ g.j ≤ n ∧ g.i ≠ g.j ∧ -20000 ≤ g.c ∧ g.c ≤ 20000)
def lC (c : Ch) : Bool := decide (c.ty.length ≤ 8 ∧ c.ho.length ≤ 6 ∧ c.ga.length ≤ 16)
def tC (c : Ch) : Bool := (List.range c.ty.length).all fun i => vY (nth c.ty i)
def oC (c : Ch) : Bool := (List.range c.ho.length).all fun i => hOk c.ty.length (nth c.ho i)
def aC (c : Ch) : Bool := (List.range c.ga.length).all fun i => gOk c.ty.length (nth c.ga i)
def vC (c : Ch) : Bool := lC c && tC c && oC c && aC c
set_option maxHeartbeats 4000000 in
theorem x5 (c : Ch) : FnR Try.prog 5 [chv c] [.c (.B (vC c))] := by
  by_cases hl : lC c = true
  case neg =>
    have hb : vC c = false := by simp [vC, hl]
    rw [hb]
    unfold lC at hl
    simp only [decide_eq_true_eq] at hl
    have h8 : (8 < (c.ty.length : Int)) = True ∨ (8 < (c.ty.length : Int)) = False := by
      rcases Nat.lt_or_ge 8 c.ty.length with h | h
      · exact .inl (eq_true (by omega))
      · exact .inr (eq_false (by omega))
    have h6 : (6 < (c.ho.length : Int)) = True ∨ (6 < (c.ho.length : Int)) = False := by
      rcases Nat.lt_or_ge 6 c.ho.length with h | h
      · exact .inl (eq_true (by omega))
      · exact .inr (eq_false (by omega))
    have h16 : (16 < (c.ga.length : Int)) = True ∨ (16 < (c.ga.length : Int)) = False := by
      rcases Nat.lt_or_ge 16 c.ga.length with h | h
      · exact .inl (eq_true (by omega))
      · exact .inr (eq_false (by omega))
    refine fn_walk code5 (by simp) ?_
    rcases h8 with h8 | h8 <;> rcases h6 with h6 | h6 <;> rcases h16 with h16 | h16
    case inr.inr.inr =>
      exfalso
      have a := of_eq_false h8
      have b := of_eq_false h6
      have d := of_eq_false h16
      exact hl ⟨by omega, by omega, by omega⟩
    all_goals (repeat' (first | refine Both.mk ?_ ?_ | ((first | refine aw ?_ | refine aD ?_ | refine aX ?_ | refine cT ?_ | refine cF ?_); try simp (disch := omega) only [go_sem, seval, reduceCtorEq, List.length_map, h8, h6, h16]) | refine aI (fun hc => ?_) fun hc => ?_ | simp (disch := omega) only [go_sem, seval, reduceCtorEq, List.length_map, h8, h6, h16] | refine aO ?_ | refine aA ?_ ?_ | fail))
  have hl' := hl
  unfold lC at hl
  simp only [decide_eq_true_eq] at hl
  obtain ⟨l8, l6, l16⟩ := hl
  have h8 : (8 < (c.ty.length : Int)) = False := eq_false (by omega)
  have h6 : (6 < (c.ho.length : Int)) = False := eq_false (by omega)
  have h16 : (16 < (c.ga.length : Int)) = False := eq_false (by omega)
  refine fn_walk code5 (by simp) ?_
  (repeat' (first | refine Both.mk ?_ ?_ | ((first | refine aw ?_ | refine aD ?_ | refine aX ?_ | refine cT ?_ | refine cF ?_); try simp (disch := omega) only [go_sem, seval, reduceCtorEq, List.length_map, h8, h6, h16]) | refine aI (fun hc => ?_) fun hc => ?_ | simp (disch := omega) only [go_sem, seval, reduceCtorEq, List.length_map, h8, h6, h16] | refine aO ?_ | refine aA ?_ ?_ | fail))
  refine AW_loopK [1, 3, 28, 29] [2, 5, 30, 31, 32, 33, 34, 35, 36, 37] (fun i : Nat => i ≤ c.ty.length ∧ ∀ k, k < i → vY (nth c.ty k) = true) (fun i => [(30, .I i)]) (fun _ => []) (fun i => c.ty.length - i) 0 ⟨by omega, fun k hk => by omega⟩ ?_ ?_
  · simp (disch := omega) only [go_sem, seval, reduceCtorEq, Int.natCast_zero]
  · intro i hi
    obtain ⟨hi, hR⟩ := hi
    rcases Nat.lt_or_ge i c.ty.length with hil | hil
    · have hge := getD_map yc c.ty i [] hil
      have hkk : ((i : Int) < (c.ty.length : Int)) = True := eq_true (by omega)
      have g1 := x18 (nth c.ty i)
      cases h1 : vY (nth c.ty i) with
      | false =>
        have hb : vC c = false := by
          have : tC c = false := all_no hil h1
          simp [vC, this]
        rw [h1] at g1
        rw [hb]
        (repeat' (first | refine Both.mk ?_ ?_ | ((first | refine aw ?_ | refine aD ?_ | refine aX ?_ | refine cT ?_ | refine cF ?_ | refine cR (g1 ..) ?_ | refine cG (g1 ..) ?_); try simp (disch := omega) only [go_sem, seval, reduceCtorEq, hge, yc, Int.toNat_natCast, List.length_map, hkk]) | refine aI (fun hc => ?_) fun hc => ?_ | simp (disch := omega) only [go_sem, seval, reduceCtorEq, hge, yc, Int.toNat_natCast, List.length_map, hkk] | refine aO ?_ | refine aC ?_ ?_ | refine aC' ?_ ?_ | refine aA ?_ ?_ | fail))
      | true =>
        rw [h1] at g1
        (repeat' (first | refine Both.mk ?_ ?_ | ((first | refine aw ?_ | refine aD ?_ | refine aX ?_ | refine cT ?_ | refine cF ?_ | refine cR (g1 ..) ?_ | refine cG (g1 ..) ?_); try simp (disch := omega) only [go_sem, seval, reduceCtorEq, hge, yc, Int.toNat_natCast, List.length_map, hkk]) | refine aI (fun hc => ?_) fun hc => ?_ | simp (disch := omega) only [go_sem, seval, reduceCtorEq, hge, yc, Int.toNat_natCast, List.length_map, hkk] | refine aO ?_ | refine aC ?_ ?_ | refine aC' ?_ ?_ | refine aA ?_ ?_ | fail))
        refine .mk (i + 1) ⟨by omega, fun k hk => ?_⟩ (by omega) ?_
        · rcases Nat.lt_succ_iff_lt_or_eq.1 hk with hk | rfl
          · exact hR k hk
          · exact h1
        · simp (disch := omega) only [go_sem, seval, reduceCtorEq, Int.natCast_add, Int.natCast_one]
    · obtain rfl : i = c.ty.length := by omega
      have ht : tC c = true := all_yes hR
      have hkk : ((c.ty.length : Int) < (c.ty.length : Int)) = False := eq_false (by omega)
      (repeat' (first | refine Both.mk ?_ ?_ | ((first | refine aw ?_ | refine aD ?_ | refine aX ?_ | refine cT ?_ | refine cF ?_); try simp (disch := omega) only [go_sem, seval, reduceCtorEq, List.length_map, hkk]) | refine aI (fun hc => ?_) fun hc => ?_ | simp (disch := omega) only [go_sem, seval, reduceCtorEq, List.length_map, hkk] | refine aO ?_ | refine aA ?_ ?_ | fail))
      refine AW_loopK [1, 3, 39, 40] [2, 7, 41, 42, 43, 44, 45, 46, 47, 48, 49, 50, 51, 52, 53, 54, 55, 56, 57, 58, 59, 60, 61] (fun i : Nat => i ≤ c.ho.length ∧ ∀ k, k < i → hOk c.ty.length (nth c.ho k) = true) (fun i => [(41, .I i)]) (fun _ => []) (fun i => c.ho.length - i) 0 ⟨by omega, fun k hk => by omega⟩ ?_ ?_
      · simp (disch := omega) only [go_sem, seval, reduceCtorEq, Int.natCast_zero]
      · intro i hi
        obtain ⟨hi, hR⟩ := hi
        rcases Nat.lt_or_ge i c.ho.length with hil | hil
        · have hge := getD_map hdc c.ho i [] hil
          have hkk : ((i : Int) < (c.ho.length : Int)) = True := eq_true (by omega)
          have g1 := x19 (nth c.ho i)
          have hb : hOk c.ty.length (nth c.ho i) = false → vC c = false := fun h => by
            have : oC c = false := all_no hil h
            simp [vC, this]
          cases h1 : vH (nth c.ho i) with
          | false =>
            have hb := hb (by simp [hOk, h1])
            rw [h1] at g1
            rw [hb]
            rcases Nat.eq_zero_or_pos (nth c.ho i).cs.length with hz | hz
            · have he : ∀ k, (List.map yc (nth c.ho i).cs).getD k [] = [] := fun k => by rw [List.eq_nil_of_length_eq_zero hz]; rfl
              (repeat' (first | refine Both.mk ?_ ?_ | ((first | refine aw ?_ | refine aD ?_ | refine aX ?_ | refine cT ?_ | refine cF ?_ | refine cR (g1 ..) ?_ | refine cG (g1 ..) ?_); try simp (disch := omega) only [go_sem, seval, reduceCtorEq, hge, hdc, he, List.map_nil, List.headD_nil, Int.toNat_natCast, List.length_map, hkk]) | refine aI (fun hc => ?_) fun hc => ?_ | simp (disch := omega) only [go_sem, seval, reduceCtorEq, hge, hdc, he, List.map_nil, List.headD_nil, Int.toNat_natCast, List.length_map, hkk] | refine aO ?_ | refine aC ?_ ?_ | refine aC' ?_ ?_ | refine aA ?_ ?_ | fail))
            · have hq : ((nth c.ho i).cs.length : Int) - 1 = (((nth c.ho i).cs.length - 1 : Nat) : Int) := by omega
              have hge2 := getD_map yc (nth c.ho i).cs ((nth c.ho i).cs.length - 1) [] (by omega)
              (repeat' (first | refine Both.mk ?_ ?_ | ((first | refine aw ?_ | refine aD ?_ | refine aX ?_ | refine cT ?_ | refine cF ?_ | refine cR (g1 ..) ?_ | refine cG (g1 ..) ?_); try simp (disch := omega) only [go_sem, seval, reduceCtorEq, hge, hdc, hge2, hq, Int.toNat_natCast, List.length_map, hkk]) | refine aI (fun hc => ?_) fun hc => ?_ | simp (disch := omega) only [go_sem, seval, reduceCtorEq, hge, hdc, hge2, hq, Int.toNat_natCast, List.length_map, hkk] | refine aO ?_ | refine aC ?_ ?_ | refine aC' ?_ ?_ | refine aA ?_ ?_ | fail))
          | true =>
            rw [h1] at g1
            obtain ⟨_, ⟨q1, q2⟩, _, _⟩ := vH_iff.1 h1
            have hq : ((nth c.ho i).cs.length : Int) - 1 = (((nth c.ho i).cs.length - 1 : Nat) : Int) := by omega
            have hq2 : ((((nth c.ho i).cs.length - 1 : Nat) : Int) < ((nth c.ho i).cs.length : Int)) = True := eq_true (by omega)
            have hge2 := getD_map yc (nth c.ho i).cs ((nth c.ho i).cs.length - 1) [] (by omega)
            by_cases h2 : (nth (nth c.ho i).cs ((nth c.ho i).cs.length - 1)).1 ≤ c.ty.length
            · have h3 : ((c.ty.length : Int) < (nth (nth c.ho i).cs ((nth c.ho i).cs.length - 1)).1) = False := eq_false (by omega)
              (repeat' (first | refine Both.mk ?_ ?_ | ((first | refine aw ?_ | refine aD ?_ | refine aX ?_ | refine cT ?_ | refine cF ?_ | refine cR (g1 ..) ?_ | refine cG (g1 ..) ?_); try simp (disch := omega) only [go_sem, seval, reduceCtorEq, hge, hdc, hge2, Int.toNat_natCast, List.length_map, hkk, hq, hq2, h3]) | refine aI (fun hc => ?_) fun hc => ?_ | simp (disch := omega) only [go_sem, seval, reduceCtorEq, hge, hdc, hge2, Int.toNat_natCast, List.length_map, hkk, hq, hq2, h3] | refine aO ?_ | refine aC ?_ ?_ | refine aC' ?_ ?_ | refine aA ?_ ?_ | fail))
              refine .mk (i + 1) ⟨by omega, fun k hk => ?_⟩ (by omega) ?_
              · rcases Nat.lt_succ_iff_lt_or_eq.1 hk with hk | rfl
                · exact hR k hk
                · simp [hOk, h1, h2]
              · simp (disch := omega) only [go_sem, seval, reduceCtorEq, Int.natCast_add, Int.natCast_one]
            · have h3 : ((c.ty.length : Int) < (nth (nth c.ho i).cs ((nth c.ho i).cs.length - 1)).1) = True := eq_true (by omega)
              have hb := hb (by simp [hOk]; intro _; omega)
              rw [hb]
              (repeat' (first | refine Both.mk ?_ ?_ | ((first | refine aw ?_ | refine aD ?_ | refine aX ?_ | refine cT ?_ | refine cF ?_ | refine cR (g1 ..) ?_ | refine cG (g1 ..) ?_); try simp (disch := omega) only [go_sem, seval, reduceCtorEq, hge, hdc, hge2, Int.toNat_natCast, List.length_map, hkk, hq, hq2, h3]) | refine aI (fun hc => ?_) fun hc => ?_ | simp (disch := omega) only [go_sem, seval, reduceCtorEq, hge, hdc, hge2, Int.toNat_natCast, List.length_map, hkk, hq, hq2, h3] | refine aO ?_ | refine aC ?_ ?_ | refine aC' ?_ ?_ | refine aA ?_ ?_ | fail))
        · obtain rfl : i = c.ho.length := by omega
          have ho : oC c = true := all_yes hR
          have hkk : ((c.ho.length : Int) < (c.ho.length : Int)) = False := eq_false (by omega)
          (repeat' (first | refine Both.mk ?_ ?_ | ((first | refine aw ?_ | refine aD ?_ | refine aX ?_ | refine cT ?_ | refine cF ?_); try simp (disch := omega) only [go_sem, seval, reduceCtorEq, List.length_map, hkk]) | refine aI (fun hc => ?_) fun hc => ?_ | simp (disch := omega) only [go_sem, seval, reduceCtorEq, List.length_map, hkk] | refine aO ?_ | refine aA ?_ ?_ | fail))
          refine AW_loopK [3, 63, 64] [2, 9, 65, 66, 67, 68, 69, 70, 71, 72, 73, 74, 75, 76, 77, 78, 79, 80, 81, 82, 83, 84, 85, 86, 87, 88, 89, 90, 91, 92, 93, 94, 95, 96, 97, 98, 99, 100, 101, 102, 103, 104, 105, 106] (fun i : Nat => i ≤ c.ga.length ∧ ∀ k, k < i → gOk c.ty.length (nth c.ga k) = true) (fun i => [(65, .I i)]) (fun _ => []) (fun i => c.ga.length - i) 0 ⟨by omega, fun k hk => by omega⟩ ?_ ?_
          · simp (disch := omega) only [go_sem, seval, reduceCtorEq, Int.natCast_zero]
          · intro i hi
            obtain ⟨hi, hR⟩ := hi
            rcases Nat.lt_or_ge i c.ga.length with hil | hil
            · have hge := getD_map gpc c.ga i [] hil
              have hkk : ((i : Int) < (c.ga.length : Int)) = True := eq_true (by omega)
              cases hb : gOk c.ty.length (nth c.ga i) with
              | true =>
                have hb' := hb
                unfold gOk at hb'
                rw [decide_eq_true_eq] at hb'
                obtain ⟨b1, b2, b3, b4, b5, b6, b7⟩ := hb'
                have c1 : ((nth c.ga i).i < 1) = False := eq_false (by omega)
                have c2 : ((c.ty.length : Int) < (nth c.ga i).i) = False := eq_false (by omega)
                have c3 : ((nth c.ga i).j < 1) = False := eq_false (by omega)
                have c4 : ((c.ty.length : Int) < (nth c.ga i).j) = False := eq_false (by omega)
                have c5 : ((nth c.ga i).i = (nth c.ga i).j) = False := eq_false b5
                have c6 : ((nth c.ga i).c < -20000) = False := eq_false (by omega)
                have c7 : (20000 < (nth c.ga i).c) = False := eq_false (by omega)
                (repeat' (first | refine Both.mk ?_ ?_ | ((first | refine aw ?_ | refine aD ?_ | refine aX ?_ | refine cT ?_ | refine cF ?_); try simp (disch := omega) only [go_sem, seval, reduceCtorEq, hge, gpc, Int.toNat_natCast, List.length_map, hkk, c1, c2, c3, c4, c5, c6, c7]) | refine aI (fun hc => ?_) fun hc => ?_ | simp (disch := omega) only [go_sem, seval, reduceCtorEq, hge, gpc, Int.toNat_natCast, List.length_map, hkk, c1, c2, c3, c4, c5, c6, c7] | refine aO ?_ | refine aA ?_ ?_ | fail))
                refine .mk (i + 1) ⟨by omega, fun k hk => ?_⟩ (by omega) ?_
                · rcases Nat.lt_succ_iff_lt_or_eq.1 hk with hk | rfl
                  · exact hR k hk
                  · exact hb
                · simp (disch := omega) only [go_sem, seval, reduceCtorEq, Int.natCast_add, Int.natCast_one]
              | false =>
                have hv : vC c = false := by
                  have : aC c = false := all_no hil hb
                  simp [vC, this]
                rw [hv]
                have hor : (nth c.ga i).i < 1 ∨ (c.ty.length : Int) < (nth c.ga i).i ∨ (nth c.ga i).j < 1 ∨ (c.ty.length : Int) < (nth c.ga i).j ∨ (nth c.ga i).i = (nth c.ga i).j ∨ (nth c.ga i).c < -20000 ∨ 20000 < (nth c.ga i).c := by
                  unfold gOk at hb
                  rw [decide_eq_false_iff_not] at hb
                  omega
                have hall : (decide ((nth c.ga i).i < 1) || decide ((c.ty.length : Int) < (nth c.ga i).i) || decide ((nth c.ga i).j < 1) || decide ((c.ty.length : Int) < (nth c.ga i).j) || decide ((nth c.ga i).i = (nth c.ga i).j) || decide ((nth c.ga i).c < -20000) || decide (20000 < (nth c.ga i).c)) = true := by
                  simp only [Bool.or_eq_true, decide_eq_true_eq]; omega
                (repeat' (first | refine Both.mk ?_ ?_ | ((first | refine aw ?_ | refine aD ?_ | refine aX ?_ | refine cT ?_ | refine cF ?_); try simp (disch := omega) only [go_sem, seval, reduceCtorEq, hge, gpc, Int.toNat_natCast, List.length_map, hkk]) | refine aI (fun hc => ?_) fun hc => ?_ | simp (disch := omega) only [go_sem, seval, reduceCtorEq, hge, gpc, Int.toNat_natCast, List.length_map, hkk] | refine aO ?_ | refine aA ?_ ?_ | fail))
                all_goals (exfalso; omega)
            · obtain rfl : i = c.ga.length := by omega
              have ha : aC c = true := all_yes hR
              have hb : vC c = true := by simp [vC, hl', ht, ho, ha]
              have hkk : ((c.ga.length : Int) < (c.ga.length : Int)) = False := eq_false (by omega)
              rw [hb]
              (repeat' (first | refine Both.mk ?_ ?_ | ((first | refine aw ?_ | refine aD ?_ | refine aX ?_ | refine cT ?_ | refine cF ?_); try simp (disch := omega) only [go_sem, seval, reduceCtorEq, List.length_map, hkk]) | refine aI (fun hc => ?_) fun hc => ?_ | simp (disch := omega) only [go_sem, seval, reduceCtorEq, List.length_map, hkk] | refine aO ?_ | refine aA ?_ ?_ | fail))
end Go.Proofs.Ytdmngdphgnnoiaa

