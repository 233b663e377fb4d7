/-
  Lemmas for the proof: no statement of its own.
-/
import Derived.Test.YtdmngdphgnnoiaaAlD
import Derived.Test.YtdmngdphgnnoiaaWalkC
set_option linter.unusedVariables false
set_option linter.unusedSimpArgs false
open Go Go.AL Go.RowKit
namespace Go.Proofs.Ytdmngdphgnnoiaa
set_option maxRecDepth 20000
/- coinage/dating.ends$1 -/
abbrev c48_1 : AC := .reg [⟨(some 3), .mv (.k (.c .nil)), none⟩] false
abbrev c48_2 : AC := .reg [⟨(some 4), .mv (.k (.c .nil)), none⟩] false
abbrev c48_3 : AC := .reg [⟨(some 7), .mv (.t 0), none⟩,
  ⟨(some 8), .len (.t 7), none⟩,
  ⟨(some 9), .mv (.k (.I 0)), none⟩] false
abbrev c48_4 : AC := .reg [⟨(some 10), .bin .lss (.t 9) (.t 8), none⟩] false
abbrev c48_5 : AC := .cond (.t 10) .skip (.exit 0)
abbrev c48_6 : AC := .reg [⟨(some 11), .iad 2 (.t 7) (.t 9), none⟩,
  ⟨(some 12), .ld (some 2) (.t 11), none⟩,
  ⟨(some 6), .alloc 32 [(.I 0), (.I 0)], none⟩,
  ⟨none, .st (some 2) (.t 6) (.t 12), none⟩] false
abbrev c48_7 : AC := .reg [⟨(some 13), .ld none (.t 1), none⟩] false
abbrev c48_8 : AC := .reg [⟨(some 14), .mv (.t 4), none⟩,
  ⟨(some 15), .fad 1 (.t 6), none⟩,
  ⟨(some 16), .ld none (.t 15), none⟩,
  ⟨(some 17), .bslice 3 1 [(.t 16)], none⟩,
  ⟨(some 18), .app 3 1 8 (.t 14) (.t 17), none⟩,
  ⟨(some 4), .mv (.t 18), none⟩] false
abbrev c48_9 : AC := .reg [⟨(some 19), .mv (.t 4), none⟩,
  ⟨(some 20), .fad 0 (.t 6), none⟩,
  ⟨(some 21), .ld none (.t 20), none⟩,
  ⟨(some 22), .bslice 3 1 [(.t 21)], none⟩,
  ⟨(some 23), .app 3 1 8 (.t 19) (.t 22), none⟩,
  ⟨(some 4), .mv (.t 23), none⟩] false
abbrev c48_10 : AC := .cond (.t 13) c48_8 c48_9
abbrev c48_11 : AC := .seq c48_7 c48_10
abbrev c48_12 : AC := .seq c48_6 c48_11
abbrev c48_13 : AC := .block 1 c48_12
abbrev c48_14 : AC := .reg [⟨(some 24), .bin .add (.t 9) (.k (.I 1)), none⟩,
  ⟨(some 9), .mv (.t 24), none⟩] false
abbrev c48_15 : AC := .seq c48_13 c48_14
abbrev c48_16 : AC := .seq c48_5 c48_15
abbrev c48_17 : AC := .seq c48_4 c48_16
abbrev c48_18 : AC := .loop c48_17
abbrev c48_19 : AC := .block 0 c48_18
abbrev c48_20 : AC := .seq c48_3 c48_19
abbrev c48_21 : AC := .reg [⟨(some 25), .mv (.t 4), none⟩,
  ⟨(some 3), .mv (.t 25), none⟩] false
abbrev c48_22 : AC := .seq c48_21 .ret
abbrev c48_23 : AC := .seq c48_20 c48_22
abbrev c48_24 : AC := .seq c48_2 c48_23
abbrev c48_25 : AC := .seq c48_1 c48_24
abbrev c48 : AC := c48_25
theorem code48 : fnCode Try.prog 48 = some (c48, [3], 26) := by kernel_rfl
/- coinage/dating.ends -/
abbrev c33_1 : AC := .reg [⟨(some 2), .box 26 (some 3) (.t 0), none⟩,
  ⟨(some 3), .box 4 none (.t 1), none⟩,
  ⟨(some 4), .mv (.k (.c .nil)), none⟩,
  ⟨(some 5), .mv (.k (.c .nil)), none⟩,
  ⟨(some 6), .mv (.k (.I 0)), none⟩] false
abbrev c33_2 : AC := .reg [⟨(some 12), .ld (some 3) (.t 2), none⟩,
  ⟨(some 13), .call 10 [(.t 12)], none⟩,
  ⟨(some 11), .mv (.t 13), none⟩,
  ⟨(some 14), .ext (.t 11) 0, none⟩,
  ⟨(some 15), .ext (.t 11) 1, none⟩,
  ⟨(some 16), .ext (.t 11) 2, none⟩,
  ⟨(some 7), .mv (.t 14), none⟩,
  ⟨(some 8), .mv (.t 15), none⟩,
  ⟨(some 9), .mv (.t 16), none⟩] false
abbrev c33_3 : AC := .reg [⟨(some 17), .mv (.t 9), none⟩,
  ⟨(some 18), .bin .neq (.t 17) (.k (.I 0)), none⟩] false
abbrev c33_4 : AC := .reg [⟨(some 19), .mv (.t 9), none⟩,
  ⟨(some 4), .mv (.k (.c .nil)), none⟩,
  ⟨(some 5), .mv (.k (.c .nil)), none⟩,
  ⟨(some 6), .mv (.t 19), none⟩] false
abbrev c33_5 : AC := .seq c33_4 .ret
abbrev c33_6 : AC := .cond (.t 18) c33_5 .skip
abbrev c33_7 : AC := .seq c33_3 c33_6
abbrev c33_8 : AC := .reg [⟨(some 20), .mkfn 48 [(.t 3)], none⟩,
  ⟨(some 10), .mv (.t 20), none⟩] false
abbrev c33_9 : AC := .reg [⟨(some 21), .mv (.t 10), none⟩,
  ⟨(some 22), .mv (.t 7), none⟩,
  ⟨(some 23), .callv (.t 21) [(.t 22)], none⟩,
  ⟨(some 24), .mv (.t 10), none⟩,
  ⟨(some 25), .mv (.t 8), none⟩,
  ⟨(some 26), .callv (.t 24) [(.t 25)], none⟩,
  ⟨(some 4), .mv (.t 23), none⟩,
  ⟨(some 5), .mv (.t 26), none⟩,
  ⟨(some 6), .mv (.k (.I 0)), none⟩] false
abbrev c33_10 : AC := .seq c33_9 .ret
abbrev c33_11 : AC := .seq c33_8 c33_10
abbrev c33_12 : AC := .seq c33_7 c33_11
abbrev c33_13 : AC := .seq c33_2 c33_12
abbrev c33_14 : AC := .seq c33_1 c33_13
abbrev c33 : AC := c33_14
theorem code33 : fnCode Try.prog 33 = some (c33, [4, 5, 6], 27) := by kernel_rfl
/- coinage/dating.Some -/
abbrev c13_1 : AC := .reg [⟨(some 1), .box 26 (some 3) (.t 0), none⟩,
  ⟨(some 2), .mv (.k (.c .nil)), none⟩,
  ⟨(some 3), .mv (.k (.c .nil)), none⟩,
  ⟨(some 4), .mv (.k (.I 0)), none⟩] false
abbrev c13_2 : AC := .reg [⟨(some 5), .ld (some 3) (.t 1), none⟩,
  ⟨(some 6), .call 33 [(.t 5), (.k (.B false))], none⟩,
  ⟨(some 7), .ext (.t 6) 0, none⟩,
  ⟨(some 8), .ext (.t 6) 1, none⟩,
  ⟨(some 9), .ext (.t 6) 2, none⟩,
  ⟨(some 2), .mv (.t 7), none⟩,
  ⟨(some 3), .mv (.t 8), none⟩,
  ⟨(some 4), .mv (.t 9), none⟩] false
abbrev c13_3 : AC := .seq c13_2 .ret
abbrev c13_4 : AC := .seq c13_1 c13_3
abbrev c13 : AC := c13_4
theorem code13 : fnCode Try.prog 13 = some (c13, [2, 3, 4], 10) := by kernel_rfl
/- coinage/dating.Last -/
abbrev c14_1 : AC := .reg [⟨(some 1), .box 26 (some 3) (.t 0), none⟩,
  ⟨(some 2), .mv (.k (.c .nil)), none⟩,
  ⟨(some 3), .mv (.k (.c .nil)), none⟩,
  ⟨(some 4), .mv (.k (.I 0)), none⟩] false
abbrev c14_2 : AC := .reg [⟨(some 5), .ld (some 3) (.t 1), none⟩,
  ⟨(some 6), .call 33 [(.t 5), (.k (.B true))], none⟩,
  ⟨(some 7), .ext (.t 6) 0, none⟩,
  ⟨(some 8), .ext (.t 6) 1, none⟩,
  ⟨(some 9), .ext (.t 6) 2, none⟩,
  ⟨(some 2), .mv (.t 7), none⟩,
  ⟨(some 3), .mv (.t 8), none⟩,
  ⟨(some 4), .mv (.t 9), none⟩] false
abbrev c14_3 : AC := .seq c14_2 .ret
abbrev c14_4 : AC := .seq c14_1 c14_3
abbrev c14 : AC := c14_4
theorem code14 : fnCode Try.prog 14 = some (c14, [2, 3, 4], 10) := by kernel_rfl
/- coinage/coinagebase.YearsList -/
abbrev c17_1 : AC := .reg [⟨(some 4), .mv (.k (.B false)), none⟩] false
abbrev c17_2 : AC := .reg [⟨(some 6), .mv (.t 0), none⟩,
  ⟨(some 7), .len (.t 6), none⟩,
  ⟨(some 8), .mv (.t 1), none⟩,
  ⟨(some 9), .len (.t 8), none⟩,
  ⟨(some 10), .bin .neq (.t 7) (.t 9), none⟩] false
abbrev c17_3 : AC := .reg [⟨(some 4), .mv (.k (.B false)), none⟩] false
abbrev c17_4 : AC := .seq c17_3 .ret
abbrev c17_5 : AC := .cond (.t 10) c17_4 .skip
abbrev c17_6 : AC := .seq c17_2 c17_5
abbrev c17_7 : AC := .reg [⟨(some 5), .mv (.k (.I 0)), none⟩] false
abbrev c17_8 : AC := .reg [⟨(some 11), .mv (.t 5), none⟩,
  ⟨(some 12), .mv (.t 0), none⟩,
  ⟨(some 13), .len (.t 12), none⟩,
  ⟨(some 14), .bin .lss (.t 11) (.t 13), none⟩] false
abbrev c17_9 : AC := .cond (.t 14) .skip (.exit 0)
abbrev c17_10 : AC := .seq c17_8 c17_9
abbrev c17_11 : AC := .regD [(⟨(some 17), .mv (.t 0), none⟩, [0]),
  (⟨(some 18), .mv (.t 5), none⟩, [5]),
  (⟨(some 19), .iad 2 (.t 17) (.t 18), none⟩, [17, 18]),
  (⟨(some 20), .ld (some 2) (.t 19), none⟩, [19]),
  (⟨(some 21), .mv (.t 1), none⟩, [1]),
  (⟨(some 22), .mv (.t 5), none⟩, [5]),
  (⟨(some 23), .iad 2 (.t 21) (.t 22), none⟩, [21, 22]),
  (⟨(some 24), .ld (some 2) (.t 23), none⟩, [23]),
  (⟨(some 25), .eqs true [false, false] (.t 20) (.t 24), none⟩, [20, 24])]
abbrev c17_12 : AC := .reg [⟨(some 4), .mv (.k (.B false)), none⟩] false
abbrev c17_13 : AC := .seq c17_12 .ret
abbrev c17_14 : AC := .cond (.t 25) c17_13 .skip
abbrev c17_15 : AC := .seq c17_11 c17_14
abbrev c17_16 : AC := .block 1 c17_15
abbrev c17_17 : AC := .reg [⟨(some 15), .mv (.t 5), none⟩,
  ⟨(some 16), .bin .add (.t 15) (.k (.I 1)), none⟩,
  ⟨(some 5), .mv (.t 16), none⟩] false
abbrev c17_18 : AC := .seq c17_16 c17_17
abbrev c17_19 : AC := .seq c17_10 c17_18
abbrev c17_20 : AC := .loop c17_19
abbrev c17_21 : AC := .block 0 c17_20
abbrev c17_22 : AC := .seq c17_7 c17_21
abbrev c17_23 : AC := .reg [⟨(some 4), .mv (.k (.B true)), none⟩] false
abbrev c17_24 : AC := .seq c17_23 .ret
abbrev c17_25 : AC := .seq c17_22 c17_24
abbrev c17_26 : AC := .seq c17_6 c17_25
abbrev c17_27 : AC := .seq c17_1 c17_26
abbrev c17 : AC := c17_27
theorem code17 : fnCode Try.prog 17 = some (c17, [4], 26) := by kernel_rfl
abbrev ic (x : Int) : List CD := [.I x]
abbrev Is (l : List Int) : CD := .sl 1 (l.map ic)
def pkY (b : Bool) (y : Yr) : Int := if b then y.2 else y.1
theorem x48 (l : List Yr) (hl : l.length ≤ 100) (b : Bool) : FnR Try.prog 48 [.c (Yrs l), .dptr [.B b]] [.own 3 1 ((l.map (pkY b)).map ic)] := by
  refine fn_walk code48 (by simp) ?_
  (repeat' (first | refine Both.mk ?_ ?_ | ((first | refine aw ?_ | refine aD ?_ | refine aX ?_ | refine cT ?_ | refine cF ?_); try simp (disch := omega) only [go_sem, seval, reduceCtorEq]) | refine aI (fun hc => ?_) fun hc => ?_ | simp (disch := omega) only [go_sem, seval, reduceCtorEq] | refine aO ?_ | refine aA ?_ ?_ | fail))
  refine AW_nil 4 900 3 1 (by rfl) ?_
  refine AW_loopK [1, 7, 8] [4, 6, 9, 10, 11, 12, 13, 14, 15, 16, 17, 18, 19, 20, 21, 22, 23, 24] (fun i : Nat => i ≤ l.length) (fun i => [(4, .own 900), (9, .I i)]) (fun i => [(900, .arr 3 1 (((l.take i).map (pkY b)).map ic))]) (fun i => l.length - i) 0 (by omega) ?_ ?_
  · simp (disch := omega) only [go_sem, seval, reduceCtorEq, Int.natCast_zero, List.take_zero, List.map_nil]
  · intro i hi
    rcases Nat.lt_or_ge i l.length with hil | hil
    · have hge := getD_map yc l i [] hil
      have hkk : ((i : Int) < (l.length : Int)) = True := eq_true (by omega)
      have hs : ((l.take (i + 1)).map (pkY b)).map ic = ((l.take i).map (pkY b)).map ic ++ [[.I (pkY b (nth l i))]] := by
        rw [List.take_succ_eq_append_getElem hil, List.map_append, List.map_append, nth_eq l i hil]; rfl
      have hrl : (((l.take i).map (pkY b)).map ic).length ≤ 100 := by rw [List.length_map, List.length_map, List.length_take]; omega
      generalize ((l.take i).map (pkY b)).map ic = R at *
      cases b with
      | true =>
        have hp : pkY true (nth l i) = (nth l i).2 := rfl
        (repeat' (first | refine Both.mk ?_ ?_ | ((first | refine aw ?_ | refine aD ?_ | refine aX ?_ | refine cT ?_ | refine cF ?_); try simp (disch := omega) only [go_sem, seval, reduceCtorEq, hge, yc, Int.toNat_natCast, List.length_map, hkk, maxLen]) | refine aI (fun hc => ?_) fun hc => ?_ | simp (disch := omega) only [go_sem, seval, reduceCtorEq, hge, yc, Int.toNat_natCast, List.length_map, hkk, maxLen] | refine aO ?_ | refine aA ?_ ?_ | fail))
        all_goals first | omega | skip
        refine .mk (i + 1) (by omega) (by omega) ?_
        rw [hs]
        simp (disch := omega) only [go_sem, seval, reduceCtorEq, hp, Int.natCast_add, Int.natCast_one]
      | false =>
        have hp : pkY false (nth l i) = (nth l i).1 := rfl
        (repeat' (first | refine Both.mk ?_ ?_ | ((first | refine aw ?_ | refine aD ?_ | refine aX ?_ | refine cT ?_ | refine cF ?_); try simp (disch := omega) only [go_sem, seval, reduceCtorEq, hge, yc, Int.toNat_natCast, List.length_map, hkk, maxLen]) | refine aI (fun hc => ?_) fun hc => ?_ | simp (disch := omega) only [go_sem, seval, reduceCtorEq, hge, yc, Int.toNat_natCast, List.length_map, hkk, maxLen] | refine aO ?_ | refine aA ?_ ?_ | fail))
        all_goals first | omega | skip
        refine .mk (i + 1) (by omega) (by omega) ?_
        rw [hs]
        simp (disch := omega) only [go_sem, seval, reduceCtorEq, hp, Int.natCast_add, Int.natCast_one]
    · obtain rfl : i = l.length := by omega
      have hkk : ((l.length : Int) < (l.length : Int)) = False := eq_false (by omega)
      rw [List.take_length]
      (repeat' (first | refine Both.mk ?_ ?_ | ((first | refine aw ?_ | refine aD ?_ | refine aX ?_ | refine cT ?_ | refine cF ?_); try simp (disch := omega) only [go_sem, seval, reduceCtorEq, List.length_map, hkk]) | refine aI (fun hc => ?_) fun hc => ?_ | simp (disch := omega) only [go_sem, seval, reduceCtorEq, List.length_map, hkk] | refine aO ?_ | refine aA ?_ ?_ | fail))
def tyD (c : Ch) : List Yr := (dtL (dM c) (nV c - 1)).take c.ty.length
def hoD (c : Ch) : List Yr := (dtL (dM c) (nV c - 1)).drop c.ty.length
theorem tyD_len (c : Ch) : (tyD c).length = c.ty.length := by
  have hn : nV c = c.ty.length + 1 + c.ho.length := rfl
  unfold tyD; rw [List.length_take, dtL_len]; omega
theorem hoD_len (c : Ch) : (hoD c).length = c.ho.length := by
  have hn : nV c = c.ty.length + 1 + c.ho.length := rfl
  unfold hoD; rw [List.length_drop, dtL_len]; omega
theorem flat_ic (l : List Int) : (RV.own 3 1 (l.map ic)).flatP := by
  intro r hr d hd
  obtain ⟨x, _, rfl⟩ := List.mem_map.1 hr
  rw [List.mem_singleton] at hd
  subst hd
  trivial
theorem x33 (c : Ch) (hv : vC c = true) (ho : okD c = true) (b : Bool) : FnR Try.prog 33 [chv c, .c (.B b)] [.own 3 1 (((tyD c).map (pkY b)).map ic), .own 3 1 (((hoD c).map (pkY b)).map ic), .c (.I 0)] := by
  have hl := vC_len hv
  have g : FnR Try.prog 10 [chv c] [.own 32 2 ((tyD c).map yc), .own 32 2 ((hoD c).map yc), .c (.I 0)] := x10 c hv ho
  have g1 := x48 (tyD c) (by rw [tyD_len]; omega) b
  have g2 := x48 (hoD c) (by rw [hoD_len]; omega) b
  refine fn_walk code33 (by simp) ?_
  (repeat' (first | refine Both.mk ?_ ?_ | ((first | refine aw ?_ | refine aD ?_ | refine aX ?_ | refine cT ?_ | refine cF ?_ | refine CallAt.mk _ (g ..) (by first | (intro h; cases h; done) | (intro _; repeat' (first | exact List.forall_mem_nil _ | trivial | exact flat_ic _ | refine List.forall_mem_cons.2 ⟨?_, ?_⟩)) | (intro _; simp [RV.flatP, CD.flatP]; done)) ?_ | refine cG (g ..) ?_ | refine CallAt.mk _ (g1 ..) (by first | (intro h; cases h; done) | (intro _; repeat' (first | exact List.forall_mem_nil _ | trivial | exact flat_ic _ | refine List.forall_mem_cons.2 ⟨?_, ?_⟩)) | (intro _; simp [RV.flatP, CD.flatP]; done)) ?_ | refine cG (g1 ..) ?_ | refine CallAt.mk _ (g2 ..) (by first | (intro h; cases h; done) | (intro _; repeat' (first | exact List.forall_mem_nil _ | trivial | exact flat_ic _ | refine List.forall_mem_cons.2 ⟨?_, ?_⟩)) | (intro _; simp [RV.flatP, CD.flatP]; done)) ?_ | refine cG (g2 ..) ?_); try simp (disch := omega) only [go_sem, seval, reduceCtorEq]) | refine aI (fun hc => ?_) fun hc => ?_ | simp (disch := omega) only [go_sem, seval, reduceCtorEq] | refine aO ?_ | refine aC ?_ ?_ | refine aC' ?_ ?_ | refine aA ?_ ?_ | fail))
theorem x13 (c : Ch) (hv : vC c = true) (ho : okD c = true) : FnR Try.prog 13 [chv c] [.own 3 1 (((tyD c).map (pkY false)).map ic), .own 3 1 (((hoD c).map (pkY false)).map ic), .c (.I 0)] := by
  have g := x33 c hv ho false
  refine fn_walk code13 (by simp) ?_
  (repeat' (first | refine Both.mk ?_ ?_ | ((first | refine aw ?_ | refine aD ?_ | refine aX ?_ | refine cT ?_ | refine cF ?_ | refine CallAt.mk _ (g ..) (by first | (intro h; cases h; done) | (intro _; repeat' (first | exact List.forall_mem_nil _ | trivial | exact flat_ic _ | refine List.forall_mem_cons.2 ⟨?_, ?_⟩)) | (intro _; simp [RV.flatP, CD.flatP]; done)) ?_ | refine cG (g ..) ?_); try simp (disch := omega) only [go_sem, seval, reduceCtorEq]) | refine aI (fun hc => ?_) fun hc => ?_ | simp (disch := omega) only [go_sem, seval, reduceCtorEq] | refine aO ?_ | refine aC ?_ ?_ | refine aC' ?_ ?_ | refine aA ?_ ?_ | fail))
theorem x14 (c : Ch) (hv : vC c = true) (ho : okD c = true) : FnR Try.prog 14 [chv c] [.own 3 1 (((tyD c).map (pkY true)).map ic), .own 3 1 (((hoD c).map (pkY true)).map ic), .c (.I 0)] := by
  have g := x33 c hv ho true
  refine fn_walk code14 (by simp) ?_
  (repeat' (first | refine Both.mk ?_ ?_ | ((first | refine aw ?_ | refine aD ?_ | refine aX ?_ | refine cT ?_ | refine cF ?_ | refine CallAt.mk _ (g ..) (by first | (intro h; cases h; done) | (intro _; repeat' (first | exact List.forall_mem_nil _ | trivial | exact flat_ic _ | refine List.forall_mem_cons.2 ⟨?_, ?_⟩)) | (intro _; simp [RV.flatP, CD.flatP]; done)) ?_ | refine cG (g ..) ?_); try simp (disch := omega) only [go_sem, seval, reduceCtorEq]) | refine aI (fun hc => ?_) fun hc => ?_ | simp (disch := omega) only [go_sem, seval, reduceCtorEq] | refine aO ?_ | refine aC ?_ ?_ | refine aC' ?_ ?_ | refine aA ?_ ?_ | fail))
theorem x17 (l : List Yr) (hl : l.length ≤ 1000) : FnR Try.prog 17 [.c (Yrs l), .c (Yrs l)] [.c (.B true)] := by
  refine fn_walk code17 (by simp) ?_
  (repeat' (first | refine Both.mk ?_ ?_ | ((first | refine aw ?_ | refine aD ?_ | refine aX ?_ | refine cT ?_ | refine cF ?_); try simp (disch := omega) only [go_sem, seval, reduceCtorEq]) | refine aI (fun hc => ?_) fun hc => ?_ | simp (disch := omega) only [go_sem, seval, reduceCtorEq] | refine aO ?_ | refine aA ?_ ?_ | fail))
  refine AW_loopK [0, 1] [4, 5, 11, 12, 13, 14, 15, 16, 17, 18, 19, 20, 21, 22, 23, 24, 25] (fun i : Nat => i ≤ l.length) (fun i => [(5, .I i)]) (fun _ => []) (fun i => l.length - i) 0 (by omega) ?_ ?_
  · simp (disch := omega) only [go_sem, seval, reduceCtorEq, Int.natCast_zero]
  · intro i hi
    rcases Nat.lt_or_ge i l.length with hil | hil
    · have hge := getD_map yc l i [] hil
      have hkk : ((i : Int) < (l.length : Int)) = True := eq_true (by omega)
      (repeat' (first | refine Both.mk ?_ ?_ | ((first | refine aw ?_ | refine aD ?_ | refine aX ?_ | refine cT ?_ | refine cF ?_); try simp (disch := omega) only [go_sem, seval, reduceCtorEq, hge, yc, Int.toNat_natCast, List.length_map, hkk]) | refine aI (fun hc => ?_) fun hc => ?_ | simp (disch := omega) only [go_sem, seval, reduceCtorEq, hge, yc, Int.toNat_natCast, List.length_map, hkk] | refine aO ?_ | refine aA ?_ ?_ | fail))
      refine .mk (i + 1) (by omega) (by omega) ?_
      simp (disch := omega) only [go_sem, seval, reduceCtorEq, Int.natCast_add, Int.natCast_one]
    · obtain rfl : i = l.length := by omega
      have hkk : ((l.length : Int) < (l.length : Int)) = False := eq_false (by omega)
      (repeat' (first | refine Both.mk ?_ ?_ | ((first | refine aw ?_ | refine aD ?_ | refine aX ?_ | refine cT ?_ | refine cF ?_); try simp (disch := omega) only [go_sem, seval, reduceCtorEq, List.length_map, hkk]) | refine aI (fun hc => ?_) fun hc => ?_ | simp (disch := omega) only [go_sem, seval, reduceCtorEq, List.length_map, hkk] | refine aO ?_ | refine aA ?_ ?_ | fail))
end Go.Proofs.Ytdmngdphgnnoiaa

open Go Go.AL Go.RowKit
namespace Go.Proofs.Ytdmngdphgnnoiaa
set_option maxRecDepth 20000
/- coinage/dating.Is -/
abbrev c15_1 : AC := .reg [⟨(some 3), .box 26 (some 3) (.t 0), none⟩,
  ⟨(some 6), .mv (.k (.B false)), none⟩] false
abbrev c15_2 : AC := .reg [⟨(some 15), .ld (some 3) (.t 3), none⟩,
  ⟨(some 16), .call 5 [(.t 15)], none⟩,
  ⟨(some 17), .not (.t 16), none⟩,
  ⟨(some 18), .mv (.t 17), none⟩,
  ⟨(some 19), .mv (.t 1), (some (18, false))⟩,
  ⟨(some 20), .len (.t 19), (some (18, false))⟩,
  ⟨(some 21), .fad 0 (.t 3), (some (18, false))⟩,
  ⟨(some 22), .ld none (.t 21), (some (18, false))⟩,
  ⟨(some 23), .len (.t 22), (some (18, false))⟩,
  ⟨(some 24), .bin .neq (.t 20) (.t 23), (some (18, false))⟩,
  ⟨(some 25), .pick (.t 18) (.k (.B true)) (.t 24), none⟩,
  ⟨(some 26), .mv (.t 25), none⟩,
  ⟨(some 27), .mv (.t 2), (some (26, false))⟩,
  ⟨(some 28), .len (.t 27), (some (26, false))⟩,
  ⟨(some 29), .fad 1 (.t 3), (some (26, false))⟩,
  ⟨(some 30), .ld none (.t 29), (some (26, false))⟩,
  ⟨(some 31), .len (.t 30), (some (26, false))⟩,
  ⟨(some 32), .bin .neq (.t 28) (.t 31), (some (26, false))⟩,
  ⟨(some 33), .pick (.t 26) (.k (.B true)) (.t 32), none⟩] false
abbrev c15_3 : AC := .reg [⟨(some 6), .mv (.k (.B false)), none⟩] false
abbrev c15_4 : AC := .seq c15_3 .ret
abbrev c15_5 : AC := .cond (.t 33) c15_4 .skip
abbrev c15_6 : AC := .seq c15_2 c15_5
abbrev c15_7 : AC := .reg [⟨(some 34), .fad 0 (.t 3), none⟩,
  ⟨(some 35), .ld none (.t 34), none⟩,
  ⟨(some 36), .len (.t 35), none⟩,
  ⟨(some 37), .mv (.k (.I 0)), none⟩] false
abbrev c15_8 : AC := .reg [⟨(some 38), .bin .lss (.t 37) (.t 36), none⟩] false
abbrev c15_9 : AC := .cond (.t 38) .skip (.exit 0)
abbrev c15_10 : AC := .reg [⟨(some 39), .mv (.t 37), none⟩,
  ⟨(some 40), .iad 2 (.t 35) (.t 37), none⟩,
  ⟨(some 41), .ld (some 2) (.t 40), none⟩,
  ⟨(some 8), .alloc 32 [(.I 0), (.I 0)], none⟩,
  ⟨(some 7), .mv (.t 39), none⟩,
  ⟨none, .st (some 2) (.t 8) (.t 41), none⟩] false
abbrev c15_11 : AC := .regD [(⟨(some 42), .mv (.t 1), none⟩, [1]),
  (⟨(some 43), .mv (.t 7), none⟩, [7]),
  (⟨(some 44), .iad 1 (.t 42) (.t 43), none⟩, [42, 43]),
  (⟨(some 45), .ld none (.t 44), none⟩, [44]),
  (⟨(some 46), .fad 0 (.t 8), none⟩, [8]),
  (⟨(some 47), .ld none (.t 46), none⟩, [46]),
  (⟨(some 48), .bin .lss (.t 45) (.t 47), none⟩, [45, 47]),
  (⟨(some 49), .mv (.t 48), none⟩, [48]),
  (⟨(some 50), .mv (.t 1), (some (49, false))⟩, [1, 49]),
  (⟨(some 51), .mv (.t 7), (some (49, false))⟩, [7, 49]),
  (⟨(some 52), .iad 1 (.t 50) (.t 51), (some (49, false))⟩, [50, 51, 49]),
  (⟨(some 53), .ld none (.t 52), (some (49, false))⟩, [52, 49]),
  (⟨(some 54), .fad 1 (.t 8), (some (49, false))⟩, [8, 49]),
  (⟨(some 55), .ld none (.t 54), (some (49, false))⟩, [54, 49]),
  (⟨(some 56), .bin .gtr (.t 53) (.t 55), (some (49, false))⟩, [53, 55, 49]),
  (⟨(some 57), .pick (.t 49) (.k (.B true)) (.t 56), none⟩, [49, 56])]
abbrev c15_12 : AC := .reg [⟨(some 6), .mv (.k (.B false)), none⟩] false
abbrev c15_13 : AC := .seq c15_12 .ret
abbrev c15_14 : AC := .cond (.t 57) c15_13 .skip
abbrev c15_15 : AC := .seq c15_11 c15_14
abbrev c15_16 : AC := .seq c15_10 c15_15
abbrev c15_17 : AC := .block 1 c15_16
abbrev c15_18 : AC := .reg [⟨(some 58), .bin .add (.t 37) (.k (.I 1)), none⟩,
  ⟨(some 37), .mv (.t 58), none⟩] false
abbrev c15_19 : AC := .seq c15_17 c15_18
abbrev c15_20 : AC := .seq c15_9 c15_19
abbrev c15_21 : AC := .seq c15_8 c15_20
abbrev c15_22 : AC := .loop c15_21
abbrev c15_23 : AC := .block 0 c15_22
abbrev c15_24 : AC := .seq c15_7 c15_23
abbrev c15_25 : AC := .reg [⟨(some 59), .fad 1 (.t 3), none⟩,
  ⟨(some 60), .ld none (.t 59), none⟩,
  ⟨(some 61), .len (.t 60), none⟩,
  ⟨(some 62), .mv (.k (.I 0)), none⟩] false
abbrev c15_26 : AC := .reg [⟨(some 63), .bin .lss (.t 62) (.t 61), none⟩] false
abbrev c15_27 : AC := .cond (.t 63) .skip (.exit 2)
abbrev c15_28 : AC := .reg [⟨(some 64), .mv (.t 62), none⟩,
  ⟨(some 65), .iad 4 (.t 60) (.t 62), none⟩,
  ⟨(some 66), .ld (some 4) (.t 65), none⟩,
  ⟨(some 10), .alloc 34 [(.I 0), (.c .nil), (.I 0), (.I 0)], none⟩,
  ⟨(some 9), .mv (.t 64), none⟩,
  ⟨none, .st (some 4) (.t 10) (.t 66), none⟩] false
abbrev c15_29 : AC := .regD [(⟨(some 67), .mv (.t 2), none⟩, [2]),
  (⟨(some 68), .mv (.t 9), none⟩, [9]),
  (⟨(some 69), .iad 1 (.t 67) (.t 68), none⟩, [67, 68]),
  (⟨(some 70), .ld none (.t 69), none⟩, [69]),
  (⟨(some 71), .fad 2 (.t 10), none⟩, [10]),
  (⟨(some 72), .fad 0 (.t 71), none⟩, [71]),
  (⟨(some 73), .ld none (.t 72), none⟩, [72]),
  (⟨(some 74), .bin .lss (.t 70) (.t 73), none⟩, [70, 73]),
  (⟨(some 75), .mv (.t 74), none⟩, [74]),
  (⟨(some 76), .mv (.t 2), (some (75, false))⟩, [2, 75]),
  (⟨(some 77), .mv (.t 9), (some (75, false))⟩, [9, 75]),
  (⟨(some 78), .iad 1 (.t 76) (.t 77), (some (75, false))⟩, [76, 77, 75]),
  (⟨(some 79), .ld none (.t 78), (some (75, false))⟩, [78, 75]),
  (⟨(some 80), .fad 2 (.t 10), (some (75, false))⟩, [10, 75]),
  (⟨(some 81), .fad 1 (.t 80), (some (75, false))⟩, [80, 75]),
  (⟨(some 82), .ld none (.t 81), (some (75, false))⟩, [81, 75]),
  (⟨(some 83), .bin .gtr (.t 79) (.t 82), (some (75, false))⟩, [79, 82, 75]),
  (⟨(some 84), .pick (.t 75) (.k (.B true)) (.t 83), none⟩, [75, 83])]
abbrev c15_30 : AC := .reg [⟨(some 6), .mv (.k (.B false)), none⟩] false
abbrev c15_31 : AC := .seq c15_30 .ret
abbrev c15_32 : AC := .cond (.t 84) c15_31 .skip
abbrev c15_33 : AC := .seq c15_29 c15_32
abbrev c15_34 : AC := .reg [⟨(some 85), .fad 1 (.t 10), none⟩,
  ⟨(some 86), .ld none (.t 85), none⟩,
  ⟨(some 87), .len (.t 86), none⟩,
  ⟨(some 88), .mv (.k (.I 0)), none⟩] false
abbrev c15_35 : AC := .reg [⟨(some 89), .bin .lss (.t 88) (.t 87), none⟩] false
abbrev c15_36 : AC := .cond (.t 89) .skip (.exit 4)
abbrev c15_37 : AC := .reg [⟨(some 90), .iad 2 (.t 86) (.t 88), none⟩,
  ⟨(some 91), .ld (some 2) (.t 90), none⟩,
  ⟨(some 12), .alloc 36 [(.I 0), (.I 0)], none⟩,
  ⟨none, .st (some 2) (.t 12) (.t 91), none⟩] false
abbrev c15_38 : AC := .regD [(⟨(some 92), .mv (.t 2), none⟩, [2]),
  (⟨(some 93), .mv (.t 9), none⟩, [9]),
  (⟨(some 94), .iad 1 (.t 92) (.t 93), none⟩, [92, 93]),
  (⟨(some 95), .ld none (.t 94), none⟩, [94]),
  (⟨(some 96), .mv (.t 1), none⟩, [1]),
  (⟨(some 97), .fad 0 (.t 12), none⟩, [12]),
  (⟨(some 98), .ld none (.t 97), none⟩, [97]),
  (⟨(some 99), .bin .sub (.t 98) (.k (.I 1)), none⟩, [98]),
  (⟨(some 100), .iad 1 (.t 96) (.t 99), none⟩, [96, 99]),
  (⟨(some 101), .ld none (.t 100), none⟩, [100]),
  (⟨(some 102), .bin .lss (.t 95) (.t 101), none⟩, [95, 101])]
abbrev c15_39 : AC := .reg [⟨(some 6), .mv (.k (.B false)), none⟩] false
abbrev c15_40 : AC := .seq c15_39 .ret
abbrev c15_41 : AC := .cond (.t 102) c15_40 .skip
abbrev c15_42 : AC := .seq c15_38 c15_41
abbrev c15_43 : AC := .seq c15_37 c15_42
abbrev c15_44 : AC := .block 5 c15_43
abbrev c15_45 : AC := .reg [⟨(some 103), .bin .add (.t 88) (.k (.I 1)), none⟩,
  ⟨(some 88), .mv (.t 103), none⟩] false
abbrev c15_46 : AC := .seq c15_44 c15_45
abbrev c15_47 : AC := .seq c15_36 c15_46
abbrev c15_48 : AC := .seq c15_35 c15_47
abbrev c15_49 : AC := .loop c15_48
abbrev c15_50 : AC := .block 4 c15_49
abbrev c15_51 : AC := .seq c15_34 c15_50
abbrev c15_52 : AC := .seq c15_33 c15_51
abbrev c15_53 : AC := .seq c15_28 c15_52
abbrev c15_54 : AC := .block 3 c15_53
abbrev c15_55 : AC := .reg [⟨(some 104), .bin .add (.t 62) (.k (.I 1)), none⟩,
  ⟨(some 62), .mv (.t 104), none⟩] false
abbrev c15_56 : AC := .seq c15_54 c15_55
abbrev c15_57 : AC := .seq c15_27 c15_56
abbrev c15_58 : AC := .seq c15_26 c15_57
abbrev c15_59 : AC := .loop c15_58
abbrev c15_60 : AC := .block 2 c15_59
abbrev c15_61 : AC := .seq c15_25 c15_60
abbrev c15_62 : AC := .reg [⟨(some 105), .fad 2 (.t 3), none⟩,
  ⟨(some 106), .ld none (.t 105), none⟩,
  ⟨(some 107), .len (.t 106), none⟩,
  ⟨(some 108), .mv (.k (.I 0)), none⟩] false
abbrev c15_63 : AC := .reg [⟨(some 109), .bin .lss (.t 108) (.t 107), none⟩] false
abbrev c15_64 : AC := .cond (.t 109) .skip (.exit 6)
abbrev c15_65 : AC := .reg [⟨(some 110), .iad 3 (.t 106) (.t 108), none⟩,
  ⟨(some 111), .ld (some 3) (.t 110), none⟩,
  ⟨(some 14), .alloc 55 [(.I 0), (.I 0), (.I 0)], none⟩,
  ⟨none, .st (some 3) (.t 14) (.t 111), none⟩] false
abbrev c15_66 : AC := .regD [(⟨(some 112), .mv (.t 1), none⟩, [1]),
  (⟨(some 113), .fad 1 (.t 14), none⟩, [14]),
  (⟨(some 114), .ld none (.t 113), none⟩, [113]),
  (⟨(some 115), .bin .sub (.t 114) (.k (.I 1)), none⟩, [114]),
  (⟨(some 116), .iad 1 (.t 112) (.t 115), none⟩, [112, 115]),
  (⟨(some 117), .ld none (.t 116), none⟩, [116]),
  (⟨(some 118), .mv (.t 1), none⟩, [1]),
  (⟨(some 119), .fad 0 (.t 14), none⟩, [14]),
  (⟨(some 120), .ld none (.t 119), none⟩, [119]),
  (⟨(some 121), .bin .sub (.t 120) (.k (.I 1)), none⟩, [120]),
  (⟨(some 122), .iad 1 (.t 118) (.t 121), none⟩, [118, 121]),
  (⟨(some 123), .ld none (.t 122), none⟩, [122]),
  (⟨(some 124), .bin .sub (.t 117) (.t 123), none⟩, [117, 123]),
  (⟨(some 125), .fad 2 (.t 14), none⟩, [14]),
  (⟨(some 126), .ld none (.t 125), none⟩, [125]),
  (⟨(some 127), .bin .gtr (.t 124) (.t 126), none⟩, [124, 126])]
abbrev c15_67 : AC := .reg [⟨(some 6), .mv (.k (.B false)), none⟩] false
abbrev c15_68 : AC := .seq c15_67 .ret
abbrev c15_69 : AC := .cond (.t 127) c15_68 .skip
abbrev c15_70 : AC := .seq c15_66 c15_69
abbrev c15_71 : AC := .seq c15_65 c15_70
abbrev c15_72 : AC := .block 7 c15_71
abbrev c15_73 : AC := .reg [⟨(some 128), .bin .add (.t 108) (.k (.I 1)), none⟩,
  ⟨(some 108), .mv (.t 128), none⟩] false
abbrev c15_74 : AC := .seq c15_72 c15_73
abbrev c15_75 : AC := .seq c15_64 c15_74
abbrev c15_76 : AC := .seq c15_63 c15_75
abbrev c15_77 : AC := .loop c15_76
abbrev c15_78 : AC := .block 6 c15_77
abbrev c15_79 : AC := .seq c15_62 c15_78
abbrev c15_80 : AC := .reg [⟨(some 6), .mv (.k (.B true)), none⟩] false
abbrev c15_81 : AC := .seq c15_80 .ret
abbrev c15_82 : AC := .seq c15_79 c15_81
abbrev c15_83 : AC := .seq c15_61 c15_82
abbrev c15_84 : AC := .seq c15_24 c15_83
abbrev c15_85 : AC := .seq c15_6 c15_84
abbrev c15_86 : AC := .seq c15_1 c15_85
abbrev c15 : AC := c15_86
theorem code15 : fnCode Try.prog 15 = some (c15, [6], 129) := by kernel_rfl
def IsD (c : Ch) (t h : List Int) : Prop := t.length = c.ty.length ∧ h.length = c.ho.length ∧
  (∀ i, i < c.ty.length → (nth c.ty i).1 ≤ nth t i ∧ nth t i ≤ (nth c.ty i).2) ∧
  (∀ i, i < c.ho.length → (nth c.ho i).cl.1 ≤ nth h i ∧ nth h i ≤ (nth c.ho i).cl.2 ∧ ∀ k, k < (nth c.ho i).cs.length → nth t ((nth (nth c.ho i).cs k).1.toNat - 1) ≤ nth h i) ∧
  (∀ i, i < c.ga.length → nth t ((nth c.ga i).j.toNat - 1) - nth t ((nth c.ga i).i.toNat - 1) ≤ (nth c.ga i).c)
set_option maxHeartbeats 8000000 in
theorem x15 (c : Ch) (hv : vC c = true) (t h : List Int) (H : IsD c t h) : FnR Try.prog 15 [chv c, .c (Is t), .c (Is h)] [.c (.B true)] := by
  obtain ⟨tl, hl, H1, H2, H3⟩ := H
  have hlen := vC_len hv
  have g5 := x5 c
  rw [hv] at g5
  have htb : ∀ i, i < c.ty.length → -9999 ≤ nth t i ∧ nth t i ≤ 9999 := fun i hi => by
    have := vC_ty hv hi
    have := H1 i hi
    omega
  refine fn_walk code15 (by simp) ?_
  (repeat' (first | refine Both.mk ?_ ?_ | ((first | refine aw ?_ | refine aD ?_ | refine aX ?_ | refine cT ?_ | refine cF ?_ | refine cR (g5 ..) ?_ | refine cG (g5 ..) ?_); try simp (disch := omega) only [go_sem, seval, reduceCtorEq, List.length_map, tl, hl]) | refine aI (fun hc => ?_) fun hc => ?_ | simp (disch := omega) only [go_sem, seval, reduceCtorEq, List.length_map, tl, hl] | refine aO ?_ | refine aC ?_ ?_ | refine aC' ?_ ?_ | refine aA ?_ ?_ | fail))
  refine AW_loopK [1, 2, 3, 35, 36] [6, 7, 8, 37, 38, 39, 40, 41, 42, 43, 44, 45, 46, 47, 48, 49, 50, 51, 52, 53, 54, 55, 56, 57, 58] (fun i : Nat => i ≤ c.ty.length) (fun i => [(37, .I i)]) (fun _ => []) (fun i => c.ty.length - i) 0 (by omega) ?_ ?_
  · simp (disch := omega) only [go_sem, seval, reduceCtorEq, Int.natCast_zero]
  · intro i hi
    rcases Nat.lt_or_ge i c.ty.length with hil | hil
    · have hge := getD_map yc c.ty i [] hil
      have hge2 := getD_map ic t i [] (by omega)
      have hkk : ((i : Int) < (c.ty.length : Int)) = True := eq_true (by omega)
      have h1 : (nth t i < (nth c.ty i).1) = False := eq_false (by have := H1 i hil; omega)
      have h2 : ((nth c.ty i).2 < nth t i) = False := eq_false (by have := H1 i hil; omega)
      (repeat' (first | refine Both.mk ?_ ?_ | ((first | refine aw ?_ | refine aD ?_ | refine aX ?_ | refine cT ?_ | refine cF ?_); try simp (disch := omega) only [go_sem, seval, reduceCtorEq, hge, hge2, yc, ic, Int.toNat_natCast, List.length_map, tl, hkk, h1, h2]) | refine aI (fun hc => ?_) fun hc => ?_ | simp (disch := omega) only [go_sem, seval, reduceCtorEq, hge, hge2, yc, ic, Int.toNat_natCast, List.length_map, tl, hkk, h1, h2] | refine aO ?_ | refine aA ?_ ?_ | fail))
      refine .mk (i + 1) (by omega) (by omega) ?_
      simp (disch := omega) only [go_sem, seval, reduceCtorEq, Int.natCast_add, Int.natCast_one]
    · obtain rfl : i = c.ty.length := by omega
      have hkk : ((c.ty.length : Int) < (c.ty.length : Int)) = False := eq_false (by omega)
      (repeat' (first | refine Both.mk ?_ ?_ | ((first | refine aw ?_ | refine aD ?_ | refine aX ?_ | refine cT ?_ | refine cF ?_); try simp (disch := omega) only [go_sem, seval, reduceCtorEq, List.length_map, hkk]) | refine aI (fun hc => ?_) fun hc => ?_ | simp (disch := omega) only [go_sem, seval, reduceCtorEq, List.length_map, hkk] | refine aO ?_ | refine aA ?_ ?_ | fail))
      refine AW_loopK [1, 2, 3, 60, 61] [6, 9, 10, 12, 62, 63, 64, 65, 66, 67, 68, 69, 70, 71, 72, 73, 74, 75, 76, 77, 78, 79, 80, 81, 82, 83, 84, 85, 86, 87, 88, 89, 90, 91, 92, 93, 94, 95, 96, 97, 98, 99, 100, 101, 102, 103, 104] (fun i : Nat => i ≤ c.ho.length) (fun i => [(62, .I i)]) (fun _ => []) (fun i => c.ho.length - i) 0 (by omega) ?_ ?_
      · simp (disch := omega) only [go_sem, seval, reduceCtorEq, Int.natCast_zero]
      · intro i hi
        rcases Nat.lt_or_ge i c.ho.length with hil | hil
        · have hge := getD_map hdc c.ho i [] hil
          have hge2 := getD_map ic h i [] (by omega)
          have hkk : ((i : Int) < (c.ho.length : Int)) = True := eq_true (by omega)
          obtain ⟨a1, a2, a3⟩ := H2 i hil
          have w4 := vC_coins hv hil
          have h1 : (nth h i < (nth c.ho i).cl.1) = False := eq_false (by omega)
          have h2 : ((nth c.ho i).cl.2 < nth h i) = False := eq_false (by omega)
          (repeat' (first | refine Both.mk ?_ ?_ | ((first | refine aw ?_ | refine aD ?_ | refine aX ?_ | refine cT ?_ | refine cF ?_); try simp (disch := omega) only [go_sem, seval, reduceCtorEq, hge, hge2, hdc, ic, Int.toNat_natCast, List.length_map, hl, hkk, h1, h2]) | refine aI (fun hc => ?_) fun hc => ?_ | simp (disch := omega) only [go_sem, seval, reduceCtorEq, hge, hge2, hdc, ic, Int.toNat_natCast, List.length_map, hl, hkk, h1, h2] | refine aO ?_ | refine aA ?_ ?_ | fail))
          refine AW_loopK [1, 2, 3, 9, 60, 61, 62, 86, 87] [6, 12, 88, 89, 90, 91, 92, 93, 94, 95, 96, 97, 98, 99, 100, 101, 102, 103] (fun k : Nat => k ≤ (nth c.ho i).cs.length) (fun k => [(88, .I k)]) (fun _ => []) (fun k => (nth c.ho i).cs.length - k) 0 (by omega) ?_ ?_
          · simp (disch := omega) only [go_sem, seval, reduceCtorEq, Int.natCast_zero]
          · intro k hk
            rcases Nat.lt_or_ge k (nth c.ho i).cs.length with hkl | hkl
            · have hge3 := getD_map yc (nth c.ho i).cs k [] hkl
              have hkk2 : ((k : Int) < ((nth c.ho i).cs.length : Int)) = True := eq_true (by omega)
              have w5 := vC_key hv hil hkl
              have a4 := a3 k hkl
              obtain ⟨y, hy⟩ : ∃ y : Nat, y = (nth (nth c.ho i).cs k).1.toNat - 1 := ⟨_, rfl⟩
              have hy2 : (nth (nth c.ho i).cs k).1 - 1 = (y : Int) := by omega
              have hyl : y < c.ty.length := by omega
              have hy3 : ((y : Int) < (c.ty.length : Int)) = True := eq_true (by omega)
              rw [← hy] at a4
              have hge4 := getD_map ic t y [] (by omega)
              have h3 : (nth h i < nth t y) = False := eq_false (by omega)
              (repeat' (first | refine Both.mk ?_ ?_ | ((first | refine aw ?_ | refine aD ?_ | refine aX ?_ | refine cT ?_ | refine cF ?_); try simp (disch := omega) only [go_sem, seval, reduceCtorEq, hge2, hge3, hge4, yc, ic, Int.toNat_natCast, List.length_map, tl, hl, hkk, hkk2, hy2, hy3, h3]) | refine aI (fun hc => ?_) fun hc => ?_ | simp (disch := omega) only [go_sem, seval, reduceCtorEq, hge2, hge3, hge4, yc, ic, Int.toNat_natCast, List.length_map, tl, hl, hkk, hkk2, hy2, hy3, h3] | refine aO ?_ | refine aA ?_ ?_ | fail))
              refine .mk (k + 1) (by omega) (by omega) ?_
              simp (disch := omega) only [go_sem, seval, reduceCtorEq, Int.natCast_add, Int.natCast_one]
            · obtain rfl : k = (nth c.ho i).cs.length := by omega
              have hkk2 : (((nth c.ho i).cs.length : Int) < ((nth c.ho i).cs.length : Int)) = False := eq_false (by omega)
              (repeat' (first | refine Both.mk ?_ ?_ | ((first | refine aw ?_ | refine aD ?_ | refine aX ?_ | refine cT ?_ | refine cF ?_); try simp (disch := omega) only [go_sem, seval, reduceCtorEq, List.length_map, hkk2]) | refine aI (fun hc => ?_) fun hc => ?_ | simp (disch := omega) only [go_sem, seval, reduceCtorEq, List.length_map, hkk2] | refine aO ?_ | refine aA ?_ ?_ | fail))
              refine .mk (i + 1) (by omega) (by omega) ?_
              simp (disch := omega) only [go_sem, seval, reduceCtorEq, Int.natCast_add, Int.natCast_one]
        · obtain rfl : i = c.ho.length := by omega
          have hkk : ((c.ho.length : Int) < (c.ho.length : Int)) = False := eq_false (by omega)
          (repeat' (first | refine Both.mk ?_ ?_ | ((first | refine aw ?_ | refine aD ?_ | refine aX ?_ | refine cT ?_ | refine cF ?_); try simp (disch := omega) only [go_sem, seval, reduceCtorEq, List.length_map, hkk]) | refine aI (fun hc => ?_) fun hc => ?_ | simp (disch := omega) only [go_sem, seval, reduceCtorEq, List.length_map, hkk] | refine aO ?_ | refine aA ?_ ?_ | fail))
          refine AW_loopK [1, 106, 107] [6, 14, 108, 109, 110, 111, 112, 113, 114, 115, 116, 117, 118, 119, 120, 121, 122, 123, 124, 125, 126, 127, 128] (fun i : Nat => i ≤ c.ga.length) (fun i => [(108, .I i)]) (fun _ => []) (fun i => c.ga.length - i) 0 (by omega) ?_ ?_
          · simp (disch := omega) only [go_sem, seval, reduceCtorEq, Int.natCast_zero]
          · intro i hi
            rcases Nat.lt_or_ge i c.ga.length with hil | hil
            · have hge := getD_map gpc c.ga i [] hil
              have hkk : ((i : Int) < (c.ga.length : Int)) = True := eq_true (by omega)
              obtain ⟨b1, b2, b3, b4, b5, b6, b7⟩ := vC_ga hv hil
              have a4 := H3 i hil
              obtain ⟨y, hy⟩ : ∃ y : Nat, y = (nth c.ga i).j.toNat - 1 := ⟨_, rfl⟩
              obtain ⟨z, hz⟩ : ∃ z : Nat, z = (nth c.ga i).i.toNat - 1 := ⟨_, rfl⟩
              have hy2 : (nth c.ga i).j - 1 = (y : Int) := by omega
              have hz2 : (nth c.ga i).i - 1 = (z : Int) := by omega
              have hyl : y < c.ty.length := by omega
              have hzl : z < c.ty.length := by omega
              have hy3 : ((y : Int) < (c.ty.length : Int)) = True := eq_true (by omega)
              have hz3 : ((z : Int) < (c.ty.length : Int)) = True := eq_true (by omega)
              rw [← hy, ← hz] at a4
              have hge4 := getD_map ic t y [] (by omega)
              have hge5 := getD_map ic t z [] (by omega)
              have q1 := htb y hyl
              have q2 := htb z hzl
              have h3 : ((nth c.ga i).c < nth t y - nth t z) = False := eq_false (by omega)
              (repeat' (first | refine Both.mk ?_ ?_ | ((first | refine aw ?_ | refine aD ?_ | refine aX ?_ | refine cT ?_ | refine cF ?_); try simp (disch := omega) only [go_sem, seval, reduceCtorEq, hge, hge4, hge5, gpc, ic, Int.toNat_natCast, List.length_map, tl, hkk, hy2, hy3, hz2, hz3, h3]) | refine aI (fun hc => ?_) fun hc => ?_ | simp (disch := omega) only [go_sem, seval, reduceCtorEq, hge, hge4, hge5, gpc, ic, Int.toNat_natCast, List.length_map, tl, hkk, hy2, hy3, hz2, hz3, h3] | refine aO ?_ | refine aA ?_ ?_ | fail))
              refine .mk (i + 1) (by omega) (by omega) ?_
              simp (disch := omega) only [go_sem, seval, reduceCtorEq, Int.natCast_add, Int.natCast_one]
            · obtain rfl : i = c.ga.length := by omega
              have hkk : ((c.ga.length : Int) < (c.ga.length : Int)) = False := eq_false (by omega)
              (repeat' (first | refine Both.mk ?_ ?_ | ((first | refine aw ?_ | refine aD ?_ | refine aX ?_ | refine cT ?_ | refine cF ?_); try simp (disch := omega) only [go_sem, seval, reduceCtorEq, List.length_map, hkk]) | refine aI (fun hc => ?_) fun hc => ?_ | simp (disch := omega) only [go_sem, seval, reduceCtorEq, List.length_map, hkk] | refine aO ?_ | refine aA ?_ ?_ | fail))
end Go.Proofs.Ytdmngdphgnnoiaa

open Go Go.AL Go.RowKit
namespace Go.Proofs.Ytdmngdphgnnoiaa
set_option maxRecDepth 20000
/- coinage/coinagetop.datesAwake -/
abbrev c4_1 : AC := .reg [⟨(some 0), .mv (.k (.B false)), none⟩] false
abbrev c4_2 : AC := .reg [⟨(some 5), .build [(.I 0), (.I 0)] [(0, 1, (.k (.I 1))), (1, 1, (.k (.I 9)))], none⟩,
  ⟨(some 6), .bslice 32 2 [(.t 5)], none⟩,
  ⟨(some 7), .build [(.I 0), (.I 0)] [(0, 1, (.k (.I 1))), (1, 1, (.k (.I 2)))], none⟩,
  ⟨(some 8), .bslice 36 2 [(.t 7)], none⟩,
  ⟨(some 9), .build [(.I 0), (.I 0)] [(0, 1, (.k (.I 3))), (1, 1, (.k (.I 5)))], none⟩,
  ⟨(some 10), .build [(.I 0), (.c .nil), (.I 0), (.I 0)] [(0, 1, (.k (.I 1))), (1, 1, (.t 8)), (2, 2, (.t 9))], none⟩,
  ⟨(some 11), .bslice 34 4 [(.t 10)], none⟩,
  ⟨(some 12), .build [(.c .nil), (.c .nil), (.c .nil)] [(0, 1, (.t 6)), (1, 1, (.t 11))], none⟩,
  ⟨(some 1), .alloc 26 [(.c .nil), (.c .nil), (.c .nil)], none⟩,
  ⟨none, .st (some 3) (.t 1) (.t 12), none⟩] false
abbrev c4_3 : AC := .reg [⟨(some 14), .ld (some 3) (.t 1), none⟩,
  ⟨(some 15), .call 10 [(.t 14)], none⟩,
  ⟨(some 13), .mv (.t 15), none⟩,
  ⟨(some 16), .ext (.t 13) 0, none⟩,
  ⟨(some 17), .ext (.t 13) 1, none⟩,
  ⟨(some 18), .ext (.t 13) 2, none⟩,
  ⟨(some 2), .mv (.t 16), none⟩,
  ⟨(some 3), .mv (.t 17), none⟩,
  ⟨(some 4), .mv (.t 18), none⟩] false
abbrev c4_4 : AC := .reg [⟨(some 19), .mv (.t 4), none⟩,
  ⟨(some 20), .bin .eql (.t 19) (.k (.I 0)), none⟩,
  ⟨(some 21), .mv (.t 20), none⟩,
  ⟨(some 22), .mv (.t 2), (some (21, true))⟩,
  ⟨(some 23), .build [(.I 0), (.I 0)] [(0, 1, (.k (.I 1))), (1, 1, (.k (.I 5)))], (some (21, true))⟩,
  ⟨(some 24), .bslice 32 2 [(.t 23)], (some (21, true))⟩,
  ⟨(some 25), .call 17 [(.t 22), (.t 24)], (some (21, true))⟩,
  ⟨(some 26), .pick (.t 21) (.t 25) (.k (.B false)), none⟩,
  ⟨(some 27), .mv (.t 26), none⟩,
  ⟨(some 28), .mv (.t 3), (some (27, true))⟩,
  ⟨(some 29), .build [(.I 0), (.I 0)] [(0, 1, (.k (.I 3))), (1, 1, (.k (.I 5)))], (some (27, true))⟩,
  ⟨(some 30), .bslice 32 2 [(.t 29)], (some (27, true))⟩,
  ⟨(some 31), .call 17 [(.t 28), (.t 30)], (some (27, true))⟩,
  ⟨(some 32), .pick (.t 27) (.t 31) (.k (.B false)), none⟩,
  ⟨(some 0), .mv (.t 32), none⟩] false
abbrev c4_5 : AC := .seq c4_4 .ret
abbrev c4_6 : AC := .seq c4_3 c4_5
abbrev c4_7 : AC := .seq c4_2 c4_6
abbrev c4_8 : AC := .seq c4_1 c4_7
abbrev c4 : AC := c4_8
theorem code4 : fnCode Try.prog 4 = some (c4, [0], 33) := by kernel_rfl
def c0 : Ch := ⟨[(1, 9)], [⟨1, [(1, 2)], (3, 5)⟩], []⟩
theorem c0v : vC c0 = true := by decide +kernel
theorem c0o : okD c0 = true := by decide +kernel
theorem c0t : tyD c0 = [(1, 5)] := by decide +kernel
theorem c0h : hoD c0 = [(3, 5)] := by decide +kernel
theorem h4 {Q : Exit → St → Prop} {σ : St} (h : Hold (AW Try.prog c4_3 Q σ)) : AW Try.prog c4_3 Q σ := h.out
theorem x4 : FnR Try.prog 4 [] [.c (.B true)] := by
  have g : FnR Try.prog 10 [chv c0] [.own 32 2 ((tyD c0).map yc), .own 32 2 ((hoD c0).map yc), .c (.I 0)] := x10 c0 c0v c0o
  rw [c0t, c0h] at g
  have g' : FnR Try.prog 10 [.agg [.c (.sl 2 [[.I 1, .I 9]]), .c (.sl 4 [[.I 1, .sl 2 [[.I 1, .I 2]], .I 3, .I 5]]), .c (.sl 3 [])]] [.own 32 2 [[.I 1, .I 5]], .own 32 2 [[.I 3, .I 5]], .c (.I 0)] := g
  have g1 : FnR Try.prog 17 [.c (.sl 2 [[.I 1, .I 5]]), .c (.sl 2 [[.I 1, .I 5]])] [.c (.B true)] := x17 [(1, 5)] (by decide)
  have g2 : FnR Try.prog 17 [.c (.sl 2 [[.I 3, .I 5]]), .c (.sl 2 [[.I 3, .I 5]])] [.c (.B true)] := x17 [(3, 5)] (by decide)
  refine fn_walk code4 (by simp) ?_
  (repeat' (first | (with_reducible refine h4 ?_) | refine Both.mk ?_ ?_ | ((first | refine aw ?_ | refine aD ?_ | refine aX ?_ | refine cT ?_ | refine cF ?_); try simp (disch := omega) only [go_sem, seval, reduceCtorEq, maxLen]) | refine aI (fun hc => ?_) fun hc => ?_ | simp (disch := omega) only [go_sem, seval, reduceCtorEq, maxLen] | refine aO ?_ | refine aA ?_ ?_ | fail))
  refine ⟨AW_nilBox 1 2 3 (by rfl) (by rfl) ?_⟩
  refine AW_frz [6, 11] ?_
  simp (disch := omega) only [go_sem, seval, reduceCtorEq]
  (repeat' (first | refine Both.mk ?_ ?_ | ((first | refine aw ?_ | refine aD ?_ | refine aX ?_ | refine cT ?_ | refine cF ?_ | refine cR (g' ..) ?_ | refine cG (g' ..) ?_ | refine cR (g1 ..) ?_ | refine cG (g1 ..) ?_ | refine cR (g2 ..) ?_ | refine cG (g2 ..) ?_); try simp (disch := omega) only [go_sem, seval, reduceCtorEq, maxLen]) | refine aI (fun hc => ?_) fun hc => ?_ | simp (disch := omega) only [go_sem, seval, reduceCtorEq, maxLen] | refine aO ?_ | refine aC ?_ ?_ | refine aC' ?_ ?_ | refine aA ?_ ?_ | fail))
end Go.Proofs.Ytdmngdphgnnoiaa

open Go Go.AL Go.RowKit
namespace Go.Proofs.Ytdmngdphgnnoiaa
set_option maxRecDepth 20000
/- coinage/difference.limits -/
abbrev c29_1 : AC := .reg [⟨(some 4), .mv (.k (.c .nil)), none⟩,
  ⟨(some 5), .mv (.k (.B false)), none⟩] false
abbrev c29_2 : AC := .reg [⟨(some 14), .mv (.t 0), none⟩,
  ⟨(some 15), .mks 77 1 24 [.nil] (.t 14) (.t 14), none⟩,
  ⟨(some 6), .mv (.t 15), none⟩] false
abbrev c29_3 : AC := .reg [⟨(some 16), .mv (.t 6), none⟩,
  ⟨(some 17), .len (.t 16), none⟩,
  ⟨(some 18), .mv (.k (.I 0)), none⟩] false
abbrev c29_4 : AC := .reg [⟨(some 19), .bin .lss (.t 18) (.t 17), none⟩] false
abbrev c29_5 : AC := .cond (.t 19) .skip (.exit 0)
abbrev c29_6 : AC := .reg [⟨(some 20), .mv (.t 18), none⟩,
  ⟨(some 7), .mv (.t 20), none⟩] false
abbrev c29_7 : AC := .reg [⟨(some 21), .mv (.t 6), none⟩,
  ⟨(some 22), .mv (.t 7), none⟩,
  ⟨(some 23), .mv (.t 0), none⟩,
  ⟨(some 24), .mks 76 2 16 [(.sc (.int .i64 0)), (.sc (.bool false))] (.t 23) (.t 23), none⟩,
  ⟨(some 25), .iad 1 (.t 21) (.t 22), none⟩,
  ⟨none, .st none (.t 25) (.t 24), none⟩] false
abbrev c29_8 : AC := .reg [⟨(some 26), .mv (.t 6), none⟩,
  ⟨(some 27), .mv (.t 7), none⟩,
  ⟨(some 28), .iad 1 (.t 26) (.t 27), none⟩,
  ⟨(some 29), .ld none (.t 28), none⟩,
  ⟨(some 30), .mv (.t 7), none⟩,
  ⟨(some 31), .build [(.I 0), (.B false)] [(0, 1, (.k (.I 0))), (1, 1, (.k (.B true)))], none⟩,
  ⟨(some 32), .iad 2 (.t 29) (.t 30), none⟩,
  ⟨none, .st (some 2) (.t 32) (.t 31), none⟩] false
abbrev c29_9 : AC := .seq c29_7 c29_8
abbrev c29_10 : AC := .seq c29_6 c29_9
abbrev c29_11 : AC := .block 1 c29_10
abbrev c29_12 : AC := .reg [⟨(some 33), .bin .add (.t 18) (.k (.I 1)), none⟩,
  ⟨(some 18), .mv (.t 33), none⟩] false
abbrev c29_13 : AC := .seq c29_11 c29_12
abbrev c29_14 : AC := .seq c29_5 c29_13
abbrev c29_15 : AC := .seq c29_4 c29_14
abbrev c29_16 : AC := .loop c29_15
abbrev c29_17 : AC := .block 0 c29_16
abbrev c29_18 : AC := .seq c29_3 c29_17
abbrev c29_19 : AC := .reg [⟨(some 34), .mv (.t 1), none⟩,
  ⟨(some 35), .len (.t 34), none⟩,
  ⟨(some 36), .mv (.k (.I 0)), none⟩] false
abbrev c29_20 : AC := .reg [⟨(some 37), .bin .lss (.t 36) (.t 35), none⟩] false
abbrev c29_21 : AC := .cond (.t 37) .skip (.exit 2)
abbrev c29_22 : AC := .reg [⟨(some 38), .iad 3 (.t 34) (.t 36), none⟩,
  ⟨(some 39), .ld (some 3) (.t 38), none⟩,
  ⟨(some 9), .alloc 55 [(.I 0), (.I 0), (.I 0)], none⟩,
  ⟨none, .st (some 3) (.t 9) (.t 39), none⟩] false
def c29_23L : List AP := [⟨(some 40), .mv (.t 6), none⟩,
  ⟨(some 41), .fad 0 (.t 9), none⟩,
  ⟨(some 42), .ld none (.t 41), none⟩,
  ⟨(some 43), .iad 1 (.t 40) (.t 42), none⟩,
  ⟨(some 44), .ld none (.t 43), none⟩,
  ⟨(some 45), .fad 1 (.t 9), none⟩,
  ⟨(some 46), .ld none (.t 45), none⟩,
  ⟨(some 47), .mv (.t 6), none⟩,
  ⟨(some 48), .fad 0 (.t 9), none⟩,
  ⟨(some 49), .ld none (.t 48), none⟩,
  ⟨(some 50), .iad 1 (.t 47) (.t 49), none⟩,
  ⟨(some 51), .ld none (.t 50), none⟩,
  ⟨(some 52), .fad 1 (.t 9), none⟩,
  ⟨(some 53), .ld none (.t 52), none⟩,
  ⟨(some 54), .iad 2 (.t 51) (.t 53), none⟩,
  ⟨(some 55), .ld (some 2) (.t 54), none⟩,
  ⟨(some 56), .fad 2 (.t 9), none⟩,
  ⟨(some 57), .ld none (.t 56), none⟩,
  ⟨(some 58), .build [(.I 0), (.B false)] [(0, 1, (.t 57)), (1, 1, (.k (.B true)))], none⟩,
  ⟨(some 59), .call 44 [(.t 55), (.t 58)], none⟩,
  ⟨(some 60), .iad 2 (.t 44) (.t 46), none⟩,
  ⟨none, .st (some 2) (.t 60) (.t 59), none⟩]
abbrev c29_23 : AC := .regG c29_23L [0, 0, 2, 5, 8, 0, 32, 0, 0, 256, 640, 1024, 0, 4096, 10240, 16384, 0, 65536, 131072, 294912, 1048575, 2097151] [0, 0, 2, 5, 8, 0, 32, 0, 0, 256, 640, 1024, 0, 4096, 10240, 16384, 0, 65536, 131072, 294912, 80, 1572864]
abbrev c29_24 : AC := .seq c29_22 c29_23
abbrev c29_25 : AC := .block 3 c29_24
abbrev c29_26 : AC := .reg [⟨(some 61), .bin .add (.t 36) (.k (.I 1)), none⟩,
  ⟨(some 36), .mv (.t 61), none⟩] false
abbrev c29_27 : AC := .seq c29_25 c29_26
abbrev c29_28 : AC := .seq c29_21 c29_27
abbrev c29_29 : AC := .seq c29_20 c29_28
abbrev c29_30 : AC := .loop c29_29
abbrev c29_31 : AC := .block 2 c29_30
abbrev c29_32 : AC := .seq c29_19 c29_31
abbrev c29_33 : AC := .reg [⟨(some 62), .mv (.t 0), none⟩,
  ⟨(some 63), .mv (.k (.I 0)), none⟩] false
abbrev c29_34 : AC := .reg [⟨(some 64), .bin .lss (.t 63) (.t 62), none⟩] false
abbrev c29_35 : AC := .cond (.t 64) .skip (.exit 4)
abbrev c29_36 : AC := .reg [⟨(some 65), .mv (.t 63), none⟩,
  ⟨(some 10), .mv (.t 65), none⟩] false
abbrev c29_37 : AC := .reg [⟨(some 66), .mv (.t 0), none⟩,
  ⟨(some 67), .mv (.k (.I 0)), none⟩] false
abbrev c29_38 : AC := .reg [⟨(some 68), .bin .lss (.t 67) (.t 66), none⟩] false
abbrev c29_39 : AC := .cond (.t 68) .skip (.exit 6)
abbrev c29_40 : AC := .reg [⟨(some 69), .mv (.t 67), none⟩,
  ⟨(some 11), .mv (.t 69), none⟩] false
abbrev c29_41 : AC := .reg [⟨(some 70), .mv (.t 0), none⟩,
  ⟨(some 71), .mv (.k (.I 0)), none⟩] false
abbrev c29_42 : AC := .reg [⟨(some 72), .bin .lss (.t 71) (.t 70), none⟩] false
abbrev c29_43 : AC := .cond (.t 72) .skip (.exit 8)
abbrev c29_44 : AC := .reg [⟨(some 73), .mv (.t 71), none⟩,
  ⟨(some 12), .mv (.t 73), none⟩] false
def c29_45L : List AP := [⟨(some 74), .mv (.t 6), none⟩,
  ⟨(some 75), .mv (.t 11), none⟩,
  ⟨(some 76), .iad 1 (.t 74) (.t 75), none⟩,
  ⟨(some 77), .ld none (.t 76), none⟩,
  ⟨(some 78), .mv (.t 12), none⟩,
  ⟨(some 79), .mv (.t 6), none⟩,
  ⟨(some 80), .mv (.t 11), none⟩,
  ⟨(some 81), .iad 1 (.t 79) (.t 80), none⟩,
  ⟨(some 82), .ld none (.t 81), none⟩,
  ⟨(some 83), .mv (.t 12), none⟩,
  ⟨(some 84), .iad 2 (.t 82) (.t 83), none⟩,
  ⟨(some 85), .ld (some 2) (.t 84), none⟩,
  ⟨(some 86), .mv (.t 6), none⟩,
  ⟨(some 87), .mv (.t 11), none⟩,
  ⟨(some 88), .iad 1 (.t 86) (.t 87), none⟩,
  ⟨(some 89), .ld none (.t 88), none⟩,
  ⟨(some 90), .mv (.t 10), none⟩,
  ⟨(some 91), .iad 2 (.t 89) (.t 90), none⟩,
  ⟨(some 92), .ld (some 2) (.t 91), none⟩,
  ⟨(some 93), .mv (.t 6), none⟩,
  ⟨(some 94), .mv (.t 10), none⟩,
  ⟨(some 95), .iad 1 (.t 93) (.t 94), none⟩,
  ⟨(some 96), .ld none (.t 95), none⟩,
  ⟨(some 97), .mv (.t 12), none⟩,
  ⟨(some 98), .iad 2 (.t 96) (.t 97), none⟩,
  ⟨(some 99), .ld (some 2) (.t 98), none⟩,
  ⟨(some 100), .call 45 [(.t 92), (.t 99)], none⟩,
  ⟨(some 101), .call 44 [(.t 85), (.t 100)], none⟩,
  ⟨(some 102), .iad 2 (.t 77) (.t 78), none⟩,
  ⟨none, .st (some 2) (.t 102) (.t 101), none⟩]
abbrev c29_45 : AC := .regG c29_45L [0, 0, 3, 4, 0, 0, 0, 96, 128, 0, 768, 1024, 0, 0, 12288, 16384, 0, 98304, 131072, 0, 0, 1572864, 2097152, 0, 12582912, 16777216, 33816576, 67110912, 268435455, 536870911] [0, 0, 3, 4, 0, 0, 0, 96, 128, 0, 768, 1024, 0, 0, 12288, 16384, 0, 98304, 131072, 0, 0, 1572864, 2097152, 0, 12582912, 16777216, 33816576, 67110912, 24, 402653184]
abbrev c29_46 : AC := .seq c29_44 c29_45
abbrev c29_47 : AC := .block 9 c29_46
abbrev c29_48 : AC := .reg [⟨(some 103), .bin .add (.t 71) (.k (.I 1)), none⟩,
  ⟨(some 71), .mv (.t 103), none⟩] false
abbrev c29_49 : AC := .seq c29_47 c29_48
abbrev c29_50 : AC := .seq c29_43 c29_49
abbrev c29_51 : AC := .seq c29_42 c29_50
abbrev c29_52 : AC := .loop c29_51
abbrev c29_53 : AC := .block 8 c29_52
abbrev c29_54 : AC := .seq c29_41 c29_53
abbrev c29_55 : AC := .seq c29_40 c29_54
abbrev c29_56 : AC := .block 7 c29_55
abbrev c29_57 : AC := .reg [⟨(some 104), .bin .add (.t 67) (.k (.I 1)), none⟩,
  ⟨(some 67), .mv (.t 104), none⟩] false
abbrev c29_58 : AC := .seq c29_56 c29_57
abbrev c29_59 : AC := .seq c29_39 c29_58
abbrev c29_60 : AC := .seq c29_38 c29_59
abbrev c29_61 : AC := .loop c29_60
abbrev c29_62 : AC := .block 6 c29_61
abbrev c29_63 : AC := .seq c29_37 c29_62
abbrev c29_64 : AC := .reg [⟨(some 105), .mv (.t 0), none⟩,
  ⟨(some 106), .mv (.k (.I 0)), none⟩] false
abbrev c29_65 : AC := .reg [⟨(some 107), .bin .lss (.t 106) (.t 105), none⟩] false
abbrev c29_66 : AC := .cond (.t 107) .skip (.exit 10)
abbrev c29_67 : AC := .reg [⟨(some 108), .mv (.t 106), none⟩,
  ⟨(some 13), .mv (.t 108), none⟩] false
abbrev c29_68 : AC := .reg [⟨(some 109), .mv (.t 6), none⟩,
  ⟨(some 110), .mv (.t 13), none⟩,
  ⟨(some 111), .iad 1 (.t 109) (.t 110), none⟩,
  ⟨(some 112), .ld none (.t 111), none⟩,
  ⟨(some 113), .mv (.t 13), none⟩,
  ⟨(some 114), .iad 2 (.t 112) (.t 113), none⟩,
  ⟨(some 115), .fad 0 (.t 114), none⟩,
  ⟨(some 116), .ld none (.t 115), none⟩,
  ⟨(some 117), .bin .lss (.t 116) (.k (.I 0)), none⟩] false
abbrev c29_69 : AC := .reg [⟨(some 4), .mv (.k (.c .nil)), none⟩,
  ⟨(some 5), .mv (.k (.B false)), none⟩] false
abbrev c29_70 : AC := .seq c29_69 .ret
abbrev c29_71 : AC := .cond (.t 117) c29_70 .skip
abbrev c29_72 : AC := .seq c29_68 c29_71
abbrev c29_73 : AC := .seq c29_67 c29_72
abbrev c29_74 : AC := .block 11 c29_73
abbrev c29_75 : AC := .reg [⟨(some 118), .bin .add (.t 106) (.k (.I 1)), none⟩,
  ⟨(some 106), .mv (.t 118), none⟩] false
abbrev c29_76 : AC := .seq c29_74 c29_75
abbrev c29_77 : AC := .seq c29_66 c29_76
abbrev c29_78 : AC := .seq c29_65 c29_77
abbrev c29_79 : AC := .loop c29_78
abbrev c29_80 : AC := .block 10 c29_79
abbrev c29_81 : AC := .seq c29_64 c29_80
abbrev c29_82 : AC := .seq c29_63 c29_81
abbrev c29_83 : AC := .seq c29_36 c29_82
abbrev c29_84 : AC := .block 5 c29_83
abbrev c29_85 : AC := .reg [⟨(some 119), .bin .add (.t 63) (.k (.I 1)), none⟩,
  ⟨(some 63), .mv (.t 119), none⟩] false
abbrev c29_86 : AC := .seq c29_84 c29_85
abbrev c29_87 : AC := .seq c29_35 c29_86
abbrev c29_88 : AC := .seq c29_34 c29_87
abbrev c29_89 : AC := .loop c29_88
abbrev c29_90 : AC := .block 4 c29_89
abbrev c29_91 : AC := .seq c29_33 c29_90
abbrev c29_92 : AC := .reg [⟨(some 120), .mv (.t 6), none⟩,
  ⟨(some 4), .mv (.t 120), none⟩,
  ⟨(some 5), .mv (.k (.B true)), none⟩] false
abbrev c29_93 : AC := .seq c29_92 .ret
abbrev c29_94 : AC := .seq c29_91 c29_93
abbrev c29_95 : AC := .seq c29_32 c29_94
abbrev c29_96 : AC := .seq c29_18 c29_95
abbrev c29_97 : AC := .seq c29_2 c29_96
abbrev c29_98 : AC := .seq c29_1 c29_97
abbrev c29 : AC := c29_98
theorem code29 : fnCode Try.prog 29 = some (c29, [4, 5], 121) := by kernel_rfl
abbrev lc (o : Option Int) : List CD := [.I (o.getD 0), .B o.isSome]
abbrev lv (o : Option Int) : AV := .agg [.I (o.getD 0), .B o.isSome]
theorem x44 (a b : Option Int) : FnR Try.prog 44 [lv a, lv b] [.agg (lc (lessO a b))] := by
  cases a with
  | none =>
    refine fn_walk code44 (by simp) ?_
    have : lessO none b = b := by cases b <;> rfl
    rw [this]
    cases b <;> (repeat' (first | refine Both.mk ?_ ?_ | ((first | refine aw ?_ | refine aD ?_ | refine aX ?_ | refine cT ?_ | refine cF ?_); try simp (disch := omega) only [go_sem, seval, reduceCtorEq, Option.getD_none, Option.getD_some, Option.isSome_none, Option.isSome_some]) | refine aI (fun hc => ?_) fun hc => ?_ | simp (disch := omega) only [go_sem, seval, reduceCtorEq, Option.getD_none, Option.getD_some, Option.isSome_none, Option.isSome_some] | refine aO ?_ | refine aA ?_ ?_ | fail))
    all_goals rfl
  | some x =>
    cases b with
    | none =>
      refine fn_walk code44 (by simp) ?_
      have : lessO (some x) none = some x := rfl
      rw [this]
      (repeat' (first | refine Both.mk ?_ ?_ | ((first | refine aw ?_ | refine aD ?_ | refine aX ?_ | refine cT ?_ | refine cF ?_); try simp (disch := omega) only [go_sem, seval, reduceCtorEq, Option.getD_none, Option.getD_some, Option.isSome_none, Option.isSome_some]) | refine aI (fun hc => ?_) fun hc => ?_ | simp (disch := omega) only [go_sem, seval, reduceCtorEq, Option.getD_none, Option.getD_some, Option.isSome_none, Option.isSome_some] | refine aO ?_ | refine aA ?_ ?_ | fail))
      all_goals rfl
    | some y =>
      by_cases h : y < x
      · have : lessO (some x) (some y) = some y := if_pos h
        have h' := eq_true h
        rw [this]
        refine fn_walk code44 (by simp) ?_
        (repeat' (first | refine Both.mk ?_ ?_ | ((first | refine aw ?_ | refine aD ?_ | refine aX ?_ | refine cT ?_ | refine cF ?_); try simp (disch := omega) only [go_sem, seval, reduceCtorEq, h', Option.getD_none, Option.getD_some, Option.isSome_none, Option.isSome_some]) | refine aI (fun hc => ?_) fun hc => ?_ | simp (disch := omega) only [go_sem, seval, reduceCtorEq, h', Option.getD_none, Option.getD_some, Option.isSome_none, Option.isSome_some] | refine aO ?_ | refine aA ?_ ?_ | fail))
        all_goals rfl
      · have : lessO (some x) (some y) = some x := if_neg h
        have h' := eq_false h
        rw [this]
        refine fn_walk code44 (by simp) ?_
        (repeat' (first | refine Both.mk ?_ ?_ | ((first | refine aw ?_ | refine aD ?_ | refine aX ?_ | refine cT ?_ | refine cF ?_); try simp (disch := omega) only [go_sem, seval, reduceCtorEq, h', Option.getD_none, Option.getD_some, Option.isSome_none, Option.isSome_some]) | refine aI (fun hc => ?_) fun hc => ?_ | simp (disch := omega) only [go_sem, seval, reduceCtorEq, h', Option.getD_none, Option.getD_some, Option.isSome_none, Option.isSome_some] | refine aO ?_ | refine aA ?_ ?_ | fail))
        all_goals rfl
theorem x45 (a b : Option Int) (hr : ∀ x y, a = some x → b = some y → -9000000000000000000 ≤ x + y ∧ x + y ≤ 9000000000000000000) : FnR Try.prog 45 [lv a, lv b] [.agg (lc (plusO a b))] := by
  cases a with
  | none =>
    refine fn_walk code45 (by simp) ?_
    have : plusO none b = none := rfl
    rw [this]
    cases b <;> (repeat' (first | refine Both.mk ?_ ?_ | ((first | refine aw ?_ | refine aD ?_ | refine aX ?_ | refine cT ?_ | refine cF ?_); try simp (disch := omega) only [go_sem, seval, reduceCtorEq, Option.getD_none, Option.getD_some, Option.isSome_none, Option.isSome_some]) | refine aI (fun hc => ?_) fun hc => ?_ | simp (disch := omega) only [go_sem, seval, reduceCtorEq, Option.getD_none, Option.getD_some, Option.isSome_none, Option.isSome_some] | refine aO ?_ | refine aA ?_ ?_ | fail))
    all_goals rfl
  | some x =>
    cases b with
    | none =>
      refine fn_walk code45 (by simp) ?_
      have : plusO (some x) none = none := rfl
      rw [this]
      (repeat' (first | refine Both.mk ?_ ?_ | ((first | refine aw ?_ | refine aD ?_ | refine aX ?_ | refine cT ?_ | refine cF ?_); try simp (disch := omega) only [go_sem, seval, reduceCtorEq, Option.getD_none, Option.getD_some, Option.isSome_none, Option.isSome_some]) | refine aI (fun hc => ?_) fun hc => ?_ | simp (disch := omega) only [go_sem, seval, reduceCtorEq, Option.getD_none, Option.getD_some, Option.isSome_none, Option.isSome_some] | refine aO ?_ | refine aA ?_ ?_ | fail))
      all_goals rfl
    | some y =>
      have := hr x y rfl rfl
      have h2 : plusO (some x) (some y) = some (x + y) := rfl
      rw [h2]
      refine fn_walk code45 (by simp) ?_
      (repeat' (first | refine Both.mk ?_ ?_ | ((first | refine aw ?_ | refine aD ?_ | refine aX ?_ | refine cT ?_ | refine cF ?_); try simp (disch := omega) only [go_sem, seval, reduceCtorEq, Option.getD_none, Option.getD_some, Option.isSome_none, Option.isSome_some]) | refine aI (fun hc => ?_) fun hc => ?_ | simp (disch := omega) only [go_sem, seval, reduceCtorEq, Option.getD_none, Option.getD_some, Option.isSome_none, Option.isSome_some] | refine aO ?_ | refine aA ?_ ?_ | fail))
      all_goals rfl
def rowL (n : Nat) (d : Mo) (i : Nat) : List (List CD) := (List.range n).map fun j => lc (d i j)
def tabL (n : Nat) (d : Mo) : List (List (List CD)) := (List.range n).map (rowL n d)
theorem rowL_len (n : Nat) (m : Mo) (i : Nat) : (rowL n m i).length = n := by simp [rowL]
theorem tabL_len (n : Nat) (m : Mo) : (tabL n m).length = n := by simp [tabL]
theorem rowL_get {n : Nat} (m : Mo) (i : Nat) {j : Nat} (h : j < n) : (rowL n m i).getD j [] = lc (m i j) := by
  rw [List.getD_eq_getElem?_getD, List.getElem?_eq_getElem (by rw [rowL_len]; exact h)]; simp [rowL]
theorem tabL_get {n : Nat} (m : Mo) {i : Nat} (h : i < n) : (tabL n m).getD i [] = rowL n m i := by
  rw [List.getD_eq_getElem?_getD, List.getElem?_eq_getElem (by rw [tabL_len]; exact h)]; simp [tabL]
theorem tabL_set {n i : Nat} {m m' : Mo} (h : ∀ a b, a ≠ i → m' a b = m a b) : (tabL n m).set i (rowL n m' i) = tabL n m' := by
  unfold tabL
  rw [map_range_set]
  refine List.map_congr_left fun a _ => ?_
  by_cases ha : a = i
  · rw [if_pos ha, ha]
  · rw [if_neg ha]; unfold rowL
    exact List.map_congr_left fun b _ => by rw [h a b ha]
theorem rowL_set (n : Nat) (m : Mo) (i j : Nat) (v : Option Int) : (rowL n m i).set j (lc v) = rowL n (updO m i j v) i := by
  unfold rowL
  rw [map_range_set]
  refine List.map_congr_left fun b _ => ?_
  unfold updO
  by_cases hb : b = j
  · rw [if_pos hb, if_pos ⟨rfl, hb⟩]
  · rw [if_neg hb, if_neg fun h => hb h.2]
theorem updO_ne {m : Mo} {i j a b : Nat} {v : Option Int} (h : a ≠ i) : updO m i j v a b = m a b := by
  unfold updO; exact if_neg fun h' => h h'.1
end Go.Proofs.Ytdmngdphgnnoiaa

