/-
  Lemmas for the proof: no statement of its own.
-/
import Derived.Test.YtgldpbghbkoolaaPlainF
import Derived.Test.YtgldpbghbkoolaaAlD
import Derived.KernelRfl
set_option linter.unusedVariables false
set_option linter.unusedSimpArgs false
-- P p_15.txt
open Go Go.AL Go.RowKit
namespace Go.Proofs.Ytgldpbghbkoolaa
set_option maxRecDepth 20000
/- coinage/bridge.Blocks -/
abbrev c19_1 : AC := .reg [⟨(some 1), .box 25 (some 3) (.t 0), none⟩,
  ⟨(some 2), .mv (.k (.c .nil)), none⟩,
  ⟨(some 3), .mv (.k (.I 0)), none⟩] false
abbrev c19_2 : AC := .reg [⟨(some 14), .ld (some 3) (.t 1), none⟩,
  ⟨(some 15), .call 20 [(.t 14)], none⟩,
  ⟨(some 16), .not (.t 15), none⟩] false
abbrev c19_3 : AC := .reg [⟨(some 2), .mv (.k (.c .nil)), none⟩,
  ⟨(some 3), .mv (.k (.I 1)), none⟩] false
abbrev c19_4 : AC := .seq c19_3 .ret
abbrev c19_5 : AC := .cond (.t 16) c19_4 .skip
abbrev c19_6 : AC := .seq c19_2 c19_5
abbrev c19_7 : AC := .reg [⟨(some 17), .ld (some 3) (.t 1), none⟩,
  ⟨(some 18), .call 34 [(.t 17)], none⟩,
  ⟨(some 4), .alloc 62 [(.I 0), (.c .nil), (.c .nil)], none⟩,
  ⟨none, .st (some 3) (.t 4) (.t 18), none⟩] false
abbrev c19_8 : AC := .reg [⟨(some 19), .ld (some 3) (.t 4), none⟩,
  ⟨(some 20), .call 39 [(.t 19)], none⟩,
  ⟨(some 5), .alloc 65 [(.c .nil)], none⟩,
  ⟨none, .st none (.t 5) (.t 20), none⟩] false
abbrev c19_9 : AC := .reg [⟨(some 22), .ld (some 3) (.t 4), none⟩,
  ⟨(some 23), .mkfn 41 [(.t 5)], none⟩,
  ⟨(some 24), .call 40 [(.t 22), (.t 23)], none⟩,
  ⟨(some 21), .mv (.t 24), none⟩,
  ⟨(some 25), .ext (.t 21) 0, none⟩,
  ⟨(some 26), .ext (.t 21) 1, none⟩,
  ⟨(some 6), .mv (.t 25), none⟩,
  ⟨(some 7), .mv (.t 26), none⟩] false
abbrev c19_10 : AC := .reg [⟨(some 27), .mkmap (.one .i64), none⟩,
  ⟨(some 8), .mv (.t 27), none⟩] false
abbrev c19_11 : AC := .reg [⟨(some 9), .mv (.k (.c .nil)), none⟩] false
abbrev c19_12 : AC := .reg [⟨(some 28), .fad 1 (.t 4), none⟩,
  ⟨(some 29), .ld none (.t 28), none⟩,
  ⟨(some 30), .len (.t 29), none⟩,
  ⟨(some 31), .mv (.k (.I 0)), none⟩] false
abbrev c19_13 : AC := .reg [⟨(some 32), .bin .lss (.t 31) (.t 30), none⟩] false
abbrev c19_14 : AC := .cond (.t 32) .skip (.exit 0)
abbrev c19_15 : AC := .reg [⟨(some 33), .mv (.t 31), none⟩,
  ⟨(some 34), .iad 1 (.t 29) (.t 31), none⟩,
  ⟨(some 35), .ld none (.t 34), none⟩,
  ⟨(some 10), .mv (.t 33), none⟩,
  ⟨(some 11), .mv (.t 35), none⟩] false
abbrev c19_16 : AC := .reg [⟨(some 36), .ld none (.t 5), none⟩,
  ⟨(some 37), .mv (.t 10), none⟩,
  ⟨(some 38), .iad 1 (.t 36) (.t 37), none⟩,
  ⟨(some 39), .ld none (.t 38), none⟩] false
abbrev c19_17 : AC := .cond (.t 39) (.exit 1) .skip
abbrev c19_18 : AC := .seq c19_16 c19_17
abbrev c19_19 : AC := .reg [⟨(some 41), .mv (.t 8), none⟩,
  ⟨(some 42), .mv (.t 6), none⟩,
  ⟨(some 43), .fad 2 (.t 4), none⟩,
  ⟨(some 44), .ld none (.t 43), none⟩,
  ⟨(some 45), .mv (.t 10), none⟩,
  ⟨(some 46), .iad 2 (.t 44) (.t 45), none⟩,
  ⟨(some 47), .iadA 2 1 (.t 46) (.k (.I 0)), none⟩,
  ⟨(some 48), .ld none (.t 47), none⟩,
  ⟨(some 49), .iad 1 (.t 42) (.t 48), none⟩,
  ⟨(some 50), .ld none (.t 49), none⟩,
  ⟨(some 51), .look (.one .i64) (.inl (.sc (.int .i64 0))) true (.t 41) (.t 50), none⟩,
  ⟨(some 40), .mv (.t 51), none⟩,
  ⟨(some 52), .ext (.t 40) 0, none⟩,
  ⟨(some 53), .ext (.t 40) 1, none⟩,
  ⟨(some 12), .mv (.t 52), none⟩,
  ⟨(some 13), .mv (.t 53), none⟩] false
abbrev c19_20 : AC := .reg [⟨(some 54), .mv (.t 13), none⟩,
  ⟨(some 55), .not (.t 54), none⟩] false
abbrev c19_21 : AC := .reg [⟨(some 56), .mv (.t 9), none⟩,
  ⟨(some 57), .len (.t 56), none⟩,
  ⟨(some 12), .mv (.t 57), none⟩] false
abbrev c19_22 : AC := .reg [⟨(some 58), .mv (.t 8), none⟩,
  ⟨(some 59), .mv (.t 6), none⟩,
  ⟨(some 60), .fad 2 (.t 4), none⟩,
  ⟨(some 61), .ld none (.t 60), none⟩,
  ⟨(some 62), .mv (.t 10), none⟩,
  ⟨(some 63), .iad 2 (.t 61) (.t 62), none⟩,
  ⟨(some 64), .iadA 2 1 (.t 63) (.k (.I 0)), none⟩,
  ⟨(some 65), .ld none (.t 64), none⟩,
  ⟨(some 66), .iad 1 (.t 59) (.t 65), none⟩,
  ⟨(some 67), .ld none (.t 66), none⟩,
  ⟨(some 68), .mv (.t 12), none⟩,
  ⟨none, .mset (.one .i64) (.t 58) (.t 67) (.t 68), none⟩] false
abbrev c19_23 : AC := .reg [⟨(some 69), .mv (.t 9), none⟩,
  ⟨(some 70), .bslice 22 1 [(.k (.c .nil))], none⟩,
  ⟨(some 71), .app 22 1 24 (.t 69) (.t 70), none⟩,
  ⟨(some 9), .mv (.t 71), none⟩] false
abbrev c19_24 : AC := .seq c19_22 c19_23
abbrev c19_25 : AC := .seq c19_21 c19_24
abbrev c19_26 : AC := .cond (.t 55) c19_25 .skip
abbrev c19_27 : AC := .seq c19_20 c19_26
abbrev c19_28 : AC := .reg [⟨(some 72), .mv (.t 9), none⟩,
  ⟨(some 73), .mv (.t 12), none⟩,
  ⟨(some 74), .mv (.t 9), none⟩,
  ⟨(some 75), .mv (.t 12), none⟩,
  ⟨(some 76), .iad 1 (.t 74) (.t 75), none⟩,
  ⟨(some 77), .ld none (.t 76), none⟩,
  ⟨(some 78), .mv (.t 11), none⟩,
  ⟨(some 79), .bslice 3 1 [(.t 78)], none⟩,
  ⟨(some 80), .app 3 1 8 (.t 77) (.t 79), none⟩,
  ⟨(some 81), .iad 1 (.t 72) (.t 73), none⟩,
  ⟨none, .st none (.t 81) (.t 80), none⟩] false
abbrev c19_29 : AC := .seq c19_27 c19_28
abbrev c19_30 : AC := .seq c19_19 c19_29
abbrev c19_31 : AC := .seq c19_18 c19_30
abbrev c19_32 : AC := .seq c19_15 c19_31
abbrev c19_33 : AC := .block 1 c19_32
abbrev c19_34 : AC := .reg [⟨(some 82), .bin .add (.t 31) (.k (.I 1)), none⟩,
  ⟨(some 31), .mv (.t 82), none⟩] false
abbrev c19_35 : AC := .seq c19_33 c19_34
abbrev c19_36 : AC := .seq c19_14 c19_35
abbrev c19_37 : AC := .seq c19_13 c19_36
abbrev c19_38 : AC := .loop c19_37
abbrev c19_39 : AC := .block 0 c19_38
abbrev c19_40 : AC := .seq c19_12 c19_39
abbrev c19_41 : AC := .reg [⟨(some 83), .mv (.t 9), none⟩,
  ⟨(some 2), .mv (.t 83), none⟩,
  ⟨(some 3), .mv (.k (.I 0)), none⟩] false
abbrev c19_42 : AC := .seq c19_41 .ret
abbrev c19_43 : AC := .seq c19_40 c19_42
abbrev c19_44 : AC := .seq c19_11 c19_43
abbrev c19_45 : AC := .seq c19_10 c19_44
abbrev c19_46 : AC := .seq c19_9 c19_45
abbrev c19_47 : AC := .seq c19_8 c19_46
abbrev c19_48 : AC := .seq c19_7 c19_47
abbrev c19_49 : AC := .seq c19_6 c19_48
abbrev c19_50 : AC := .seq c19_1 c19_49
abbrev c19 : AC := c19_50
theorem code19 : fnCode Try.prog 19 = some (c19, [2, 3], 84) := by kernel_rfl
/- coinage/bridge.Blocks$1 -/
abbrev c41_1 : AC := .reg [⟨(some 3), .mv (.k (.B false)), none⟩] false
abbrev c41_2 : AC := .reg [⟨(some 4), .ld none (.t 1), none⟩,
  ⟨(some 5), .mv (.t 0), none⟩,
  ⟨(some 6), .iad 1 (.t 4) (.t 5), none⟩,
  ⟨(some 7), .ld none (.t 6), none⟩,
  ⟨(some 8), .not (.t 7), none⟩,
  ⟨(some 3), .mv (.t 8), none⟩] false
abbrev c41_3 : AC := .seq c41_2 .ret
abbrev c41_4 : AC := .seq c41_1 c41_3
abbrev c41 : AC := c41_4
theorem code41 : fnCode Try.prog 41 = some (c41, [3], 9) := by kernel_rfl

theorem n41 (is : List Bool) (i : Nat) (hi : i < is.length) : FnW Try.prog 41 [.I i, .ptr 1000005 0] [(1000005, .box 65 [.c (.sl 1 (bR is))])] [.c (.B (!nth is i))] [(1000005, .box 65 [.c (.sl 1 (bR is))])] [1000005] := by
  have hge := getD_map (fun b : Bool => [CD.B b]) is i [] hi
  refine fn_walkW code41 (by simp) (by rfl) ?_
  (repeat' (first | refine NextAt.mk (fun hc => ?_) (fun pre n v post hc hkey => ?_) | refine Sni.mk (fun hc => ?_) ?_ | refine Both.mk ?_ ?_ | refine AW_seq ?_ | refine AW_block ?_ | ((first | refine AW_reg ?_ | refine AW_cond ?_ | refine AW_skip ?_ | refine AW_exit ?_ | refine AW_ret ?_ | refine AW_regD (by kernel_rfl) ?_ | refine AW_regX (by kernel_rfl) ?_ | refine CallAtG.t (Eq.refl true) ?_ | refine CallAtG.f (Eq.refl false) ?_); try simp (disch := omega) only [go_sem, seval, reduceCtorEq, ↓reduceIte, beq_dec, Int.toNat_natCast, IntKind.signed, IntKind.bits, List.length_map, hge]) | refine And.intro (fun hc => (?_ : AW _ _ _ _)) (fun hc => (?_ : AW _ _ _ _)) | simp (disch := omega) only [go_sem, seval, reduceCtorEq, ↓reduceIte, beq_dec, Int.toNat_natCast, IntKind.signed, IntKind.bits, List.length_map, hge] | (refine And.intro ?_ ?_; focus (first | (intros; omega) | (intros; simp_all; done))) | refine And.intro (?_ : CallAt _ _ _ _ _ _ _ _) ?_ | refine And.intro (?_ : CallAt _ _ _ _ _ _ _ _ ∧ _) ?_ | refine And.intro (?_ : AW _ _ _ _) ?_ | fail))
set_option maxHeartbeats 8000000 in
theorem n40d (n : Nat) (ids : List Int) (es : Es) (is : List Bool) (hisl : is.length = es.length) (hn : n ≤ 70) (he : EsLt es n) (hel : es.length ≤ 70) : FnW Try.prog 40 [netAV n ids es, .fn 41 [.ptr 1000005 0]] [(1000005, .box 65 [.c (.sl 1 (bR is))])] [.own 3 1 (iN (ptS es (fun k => !nth is k) n es.length).nm), .c (.I (ptS es (fun k => !nth is k) n es.length).c)] [(1000005, .box 65 [.c (.sl 1 (bR is))])] [1000005] := by
  refine fn_walkW code40 (by simp) (by rfl) ?_
  (repeat' (first | refine NextAt.mk (fun hc => ?_) (fun pre n v post hc hkey => ?_) | refine Sni.mk (fun hc => ?_) ?_ | refine Both.mk ?_ ?_ | refine AW_seq ?_ | refine AW_block ?_ | ((first | refine AW_reg ?_ | refine AW_cond ?_ | refine AW_skip ?_ | refine AW_exit ?_ | refine AW_ret ?_ | refine AW_regD (by kernel_rfl) ?_ | refine AW_regX (by kernel_rfl) ?_ | refine CallAtG.t (Eq.refl true) ?_ | refine CallAtG.f (Eq.refl false) ?_); try simp (disch := omega) only [go_sem, seval, reduceCtorEq, ↓reduceIte, beq_dec, Int.toNat_natCast, IntKind.signed, IntKind.bits, maxLen]) | refine And.intro (fun hc => (?_ : AW _ _ _ _)) (fun hc => (?_ : AW _ _ _ _)) | simp (disch := omega) only [go_sem, seval, reduceCtorEq, ↓reduceIte, beq_dec, Int.toNat_natCast, IntKind.signed, IntKind.bits, maxLen] | (refine And.intro ?_ ?_; focus (first | (intros; omega) | (intros; simp_all; done))) | refine And.intro (?_ : CallAt _ _ _ _ _ _ _ _) ?_ | refine And.intro (?_ : CallAt _ _ _ _ _ _ _ _ ∧ _) ?_ | refine And.intro (?_ : AW _ _ _ _) ?_ | fail))
  refine AW_loopK [1, 2, 6, 18] [7, 19, 20, 21, 22, 23, 24, 25, 26] (fun i : Nat => i ≤ n) (fun i => [(19, .I i)]) (fun i => [(16, .arr 3 1 (iN (List.range i ++ List.replicate (n - i) 0)))]) (fun i => n - i) 0 (by omega) ?_ ?_
  · simp (disch := omega) only [go_sem, seval, reduceCtorEq, ↓reduceIte, beq_dec, Int.toNat_natCast, IntKind.signed, IntKind.bits, Int.natCast_zero, List.range_zero, List.nil_append, Nat.sub_zero, List.map_replicate]
  · intro i hi
    have hil2 : (List.range i ++ List.replicate (n - i) 0).length = n := by simp; omega
    rcases Nat.lt_or_ge i n with hin | hin
    · have hset := rangeN_set n i hin
      have hge := getD_map (fun x : Nat => [CD.I (x : Int)]) (List.range i ++ List.replicate (n - i) 0) i [] (by omega)
      (repeat' (first | refine NextAt.mk (fun hc => ?_) (fun pre n v post hc hkey => ?_) | refine Sni.mk (fun hc => ?_) ?_ | refine Both.mk ?_ ?_ | refine AW_seq ?_ | refine AW_block ?_ | ((first | refine AW_reg ?_ | refine AW_cond ?_ | refine AW_skip ?_ | refine AW_exit ?_ | refine AW_ret ?_ | refine AW_regD (by kernel_rfl) ?_ | refine AW_regX (by kernel_rfl) ?_ | refine CallAtG.t (Eq.refl true) ?_ | refine CallAtG.f (Eq.refl false) ?_); try simp (disch := omega) only [go_sem, seval, reduceCtorEq, ↓reduceIte, beq_dec, Int.toNat_natCast, IntKind.signed, IntKind.bits, List.length_map, hil2, hge, List.set_cons_zero, hset, Int.toNat_natCast, List.length_replicate]) | refine And.intro (fun hc => (?_ : AW _ _ _ _)) (fun hc => (?_ : AW _ _ _ _)) | simp (disch := omega) only [go_sem, seval, reduceCtorEq, ↓reduceIte, beq_dec, Int.toNat_natCast, IntKind.signed, IntKind.bits, List.length_map, hil2, hge, List.set_cons_zero, hset, Int.toNat_natCast, List.length_replicate] | (refine And.intro ?_ ?_; focus (first | (intros; omega) | (intros; simp_all; done))) | refine And.intro (?_ : CallAt _ _ _ _ _ _ _ _) ?_ | refine And.intro (?_ : CallAt _ _ _ _ _ _ _ _ ∧ _) ?_ | refine And.intro (?_ : AW _ _ _ _) ?_ | fail))
      · refine .mk (i + 1) (by omega) (by omega) ?_
        simp (disch := omega) only [go_sem, seval, reduceCtorEq, ↓reduceIte, beq_dec, Int.toNat_natCast, IntKind.signed, IntKind.bits, Int.natCast_add, Int.natCast_one]
      · exfalso; omega
    · obtain rfl : i = n := by omega
      rw [Nat.sub_self, List.replicate_zero, List.append_nil]
      (repeat' (first | refine NextAt.mk (fun hc => ?_) (fun pre n v post hc hkey => ?_) | refine Sni.mk (fun hc => ?_) ?_ | refine Both.mk ?_ ?_ | refine AW_seq ?_ | refine AW_block ?_ | ((first | refine AW_reg ?_ | refine AW_cond ?_ | refine AW_skip ?_ | refine AW_exit ?_ | refine AW_ret ?_ | refine AW_regD (by kernel_rfl) ?_ | refine AW_regX (by kernel_rfl) ?_ | refine CallAtG.t (Eq.refl true) ?_ | refine CallAtG.f (Eq.refl false) ?_); try simp (disch := omega) only [go_sem, seval, reduceCtorEq, ↓reduceIte, beq_dec, Int.toNat_natCast, IntKind.signed, IntKind.bits, List.length_map, List.length_range, List.length_replicate]) | refine And.intro (fun hc => (?_ : AW _ _ _ _)) (fun hc => (?_ : AW _ _ _ _)) | simp (disch := omega) only [go_sem, seval, reduceCtorEq, ↓reduceIte, beq_dec, Int.toNat_natCast, IntKind.signed, IntKind.bits, List.length_map, List.length_range, List.length_replicate] | (refine And.intro ?_ ?_; focus (first | (intros; omega) | (intros; simp_all; done))) | refine And.intro (?_ : CallAt _ _ _ _ _ _ _ _) ?_ | refine And.intro (?_ : CallAt _ _ _ _ _ _ _ _ ∧ _) ?_ | refine And.intro (?_ : AW _ _ _ _) ?_ | fail))
      · exfalso; omega
      refine AW_loopK [1, 6, 30, 31] [8, 9, 10, 11, 12, 13, 32, 33, 34, 35, 36, 37, 38, 39, 40, 41, 42, 43, 44, 45, 46, 47, 48, 49, 50, 51, 52, 53, 54, 55, 56, 57, 58, 59, 60, 61, 62, 63, 64, 65, 66, 67, 68, 69, 70, 71, 72, 73, 74] (fun k : Nat => k ≤ es.length) (fun k => [(32, .I k), (8, .I (ptS es (fun k => !nth is k) i k).c)]) (fun k => [(16, .arr 3 1 (iN (ptS es (fun k => !nth is k) i k).nm))]) (fun k => es.length - k) 0 (by omega) ?_ ?_
      · simp (disch := omega) only [go_sem, seval, reduceCtorEq, ↓reduceIte, beq_dec, Int.toNat_natCast, IntKind.signed, IntKind.bits, Int.natCast_zero, ptS]
      · intro k hk
        obtain ⟨pl, pc1, pc2⟩ := ptS_len es (fun k => !nth is k) i k
        rcases Nat.lt_or_ge k es.length with hkl | hkl
        · have hsuc : ptS es (fun k => !nth is k) i (k + 1) = ptK es (fun k => !nth is k) (ptS es (fun k => !nth is k) i k) k := rfl
          unfold ptK at hsuc
          obtain ⟨x1, x2⟩ := he k hkl
          generalize ptS es (fun k => !nth is k) i k = s at *
          generalize hE : nth es k = e at *
          obtain ⟨x, y⟩ := e
          simp only at x1 x2 hsuc
          have gx := getD_map (fun x : Nat => [CD.I (x : Int)]) s.nm x [] (by omega)
          have gy := getD_map (fun x : Nat => [CD.I (x : Int)]) s.nm y [] (by omega)
          generalize hA : nth s.nm x = A at *
          generalize hB : nth s.nm y = B at *
          have g49 := n41 is k (by omega)
          by_cases hab : A = B
          · have e1 : ((A : Int) = (B : Int)) = True := by simp; omega
            rw [if_pos (.inl hab)] at hsuc
            (repeat' (first | refine NextAt.mk (fun hc => ?_) (fun pre n v post hc hkey => ?_) | refine Sni.mk (fun hc => ?_) ?_ | refine Both.mk ?_ ?_ | refine AW_seq ?_ | refine AW_block ?_ | ((first | refine AW_reg ?_ | refine AW_cond ?_ | refine AW_skip ?_ | refine AW_exit ?_ | refine AW_ret ?_ | refine AW_regD (by kernel_rfl) ?_ | refine AW_regX (by kernel_rfl) ?_ | refine CallAtG.t (Eq.refl true) ?_ | refine CallAtG.f (Eq.refl false) ?_); try simp (disch := omega) only [go_sem, seval, reduceCtorEq, ↓reduceIte, beq_dec, Int.toNat_natCast, IntKind.signed, IntKind.bits, List.length_map, getD_map (fun e : Nat × Nat => [CD.I (e.1 : Int), CD.I (e.2 : Int)]), hE, gx, gy, e1, Int.toNat_natCast, pl]) | refine And.intro (fun hc => (?_ : AW _ _ _ _)) (fun hc => (?_ : AW _ _ _ _)) | simp (disch := omega) only [go_sem, seval, reduceCtorEq, ↓reduceIte, beq_dec, Int.toNat_natCast, IntKind.signed, IntKind.bits, List.length_map, getD_map (fun e : Nat × Nat => [CD.I (e.1 : Int), CD.I (e.2 : Int)]), hE, gx, gy, e1, Int.toNat_natCast, pl] | (refine And.intro ?_ ?_; focus (first | (intros; omega) | (intros; simp_all; done))) | refine And.intro (?_ : CallAt _ _ _ _ _ _ _ _) ?_ | refine And.intro (?_ : CallAt _ _ _ _ _ _ _ _ ∧ _) ?_ | refine And.intro (?_ : AW _ _ _ _) ?_ | fail))
            · refine .mk (k + 1) (by omega) (by omega) ?_
              rw [hsuc]
              simp (disch := omega) only [go_sem, seval, reduceCtorEq, ↓reduceIte, beq_dec, Int.toNat_natCast, IntKind.signed, IntKind.bits, Int.natCast_add, Int.natCast_one]
            · exfalso; omega
          · have e1 : ((A : Int) = (B : Int)) = False := by simp; omega
            cases hu : (fun k => !nth is k) k with
            | false =>
              rw [if_pos (.inr hu)] at hsuc
              try dsimp only at hu
              rw [hu] at g49
              (repeat' (first | refine NextAt.mk (fun hc => ?_) (fun pre n v post hc hkey => ?_) | refine Sni.mk (fun hc => ?_) ?_ | refine Both.mk ?_ ?_ | refine AW_seq ?_ | refine AW_block ?_ | ((first | refine AW_reg ?_ | refine AW_cond ?_ | refine AW_skip ?_ | refine AW_exit ?_ | refine AW_ret ?_ | refine AW_regD (by kernel_rfl) ?_ | refine AW_regX (by kernel_rfl) ?_ | refine CallAt.mkW (g49 ..) (by rfl) (by simp (disch := omega) only [go_sem, seval, reduceCtorEq, ↓reduceIte, beq_dec, Int.toNat_natCast, IntKind.signed, IntKind.bits, List.length_map, getD_map (fun e : Nat × Nat => [CD.I (e.1 : Int), CD.I (e.2 : Int)]), hE, gx, gy, e1, Int.toNat_natCast, pl]) (by rfl) (by rfl) (by first | (intro h; cases h; done) | (intro _; simp [RV.flatP, CD.flatP, flatOb, AO.flatP, List.length_map, getD_map (fun e : Nat × Nat => [CD.I (e.1 : Int), CD.I (e.2 : Int)]), hE, gx, gy, e1, Int.toNat_natCast, pl]; done)) ?_ | refine CallAtG.t (Eq.refl true) ?_ | refine CallAtG.f (Eq.refl false) ?_); try simp (disch := omega) only [go_sem, seval, reduceCtorEq, ↓reduceIte, beq_dec, Int.toNat_natCast, IntKind.signed, IntKind.bits, List.length_map, getD_map (fun e : Nat × Nat => [CD.I (e.1 : Int), CD.I (e.2 : Int)]), hE, gx, gy, e1, Int.toNat_natCast, pl]) | refine And.intro (fun hc => (?_ : AW _ _ _ _)) (fun hc => (?_ : AW _ _ _ _)) | simp (disch := omega) only [go_sem, seval, reduceCtorEq, ↓reduceIte, beq_dec, Int.toNat_natCast, IntKind.signed, IntKind.bits, List.length_map, getD_map (fun e : Nat × Nat => [CD.I (e.1 : Int), CD.I (e.2 : Int)]), hE, gx, gy, e1, Int.toNat_natCast, pl] | (refine And.intro ?_ ?_; focus (first | (intros; omega) | (intros; simp_all; done))) | refine And.intro (?_ : CallAt _ _ _ _ _ _ _ _) ?_ | refine And.intro (?_ : CallAt _ _ _ _ _ _ _ _ ∧ _) ?_ | refine And.intro (?_ : AW _ _ _ _) ?_ | fail))
              · refine .mk (k + 1) (by omega) (by omega) ?_
                rw [hsuc]
                simp (disch := omega) only [go_sem, seval, reduceCtorEq, ↓reduceIte, beq_dec, Int.toNat_natCast, IntKind.signed, IntKind.bits, Int.natCast_add, Int.natCast_one]
              · exfalso; omega
            | true =>
              rw [if_neg (by rintro (h | h); exact hab h; exact Bool.noConfusion (hu.symm.trans h))] at hsuc
              try dsimp only at hu
              try rw [hu] at g49
              (repeat' (first | refine NextAt.mk (fun hc => ?_) (fun pre n v post hc hkey => ?_) | refine Sni.mk (fun hc => ?_) ?_ | refine Both.mk ?_ ?_ | refine AW_seq ?_ | refine AW_block ?_ | ((first | refine AW_reg ?_ | refine AW_cond ?_ | refine AW_skip ?_ | refine AW_exit ?_ | refine AW_ret ?_ | refine AW_regD (by kernel_rfl) ?_ | refine AW_regX (by kernel_rfl) ?_ | refine CallAt.mkW (g49 ..) (by rfl) (by simp (disch := omega) only [go_sem, seval, reduceCtorEq, ↓reduceIte, beq_dec, Int.toNat_natCast, IntKind.signed, IntKind.bits, List.length_map, getD_map (fun e : Nat × Nat => [CD.I (e.1 : Int), CD.I (e.2 : Int)]), hE, gx, gy, e1, Int.toNat_natCast, pl, inK]) (by rfl) (by rfl) (by first | (intro h; cases h; done) | (intro _; simp [RV.flatP, CD.flatP, flatOb, AO.flatP, List.length_map, getD_map (fun e : Nat × Nat => [CD.I (e.1 : Int), CD.I (e.2 : Int)]), hE, gx, gy, e1, Int.toNat_natCast, pl, inK]; done)) ?_ | refine CallAtG.t (Eq.refl true) ?_ | refine CallAtG.f (Eq.refl false) ?_); try simp (disch := omega) only [go_sem, seval, reduceCtorEq, ↓reduceIte, beq_dec, Int.toNat_natCast, IntKind.signed, IntKind.bits, List.length_map, getD_map (fun e : Nat × Nat => [CD.I (e.1 : Int), CD.I (e.2 : Int)]), hE, gx, gy, e1, Int.toNat_natCast, pl, inK]) | refine And.intro (fun hc => (?_ : AW _ _ _ _)) (fun hc => (?_ : AW _ _ _ _)) | simp (disch := omega) only [go_sem, seval, reduceCtorEq, ↓reduceIte, beq_dec, Int.toNat_natCast, IntKind.signed, IntKind.bits, List.length_map, getD_map (fun e : Nat × Nat => [CD.I (e.1 : Int), CD.I (e.2 : Int)]), hE, gx, gy, e1, Int.toNat_natCast, pl, inK] | (refine And.intro ?_ ?_; focus (first | (intros; omega) | (intros; simp_all; done))) | refine And.intro (?_ : CallAt _ _ _ _ _ _ _ _) ?_ | refine And.intro (?_ : CallAt _ _ _ _ _ _ _ _ ∧ _) ?_ | refine And.intro (?_ : AW _ _ _ _) ?_ | fail))
              · refine AW_loopK [1, 6, 8, 11, 12, 30, 31, 32, 59] [13, 60, 61, 62, 63, 64, 65, 66, 67, 68, 69, 70, 71, 72, 73] (fun j : Nat => j ≤ s.nm.length) (fun j => [(60, .I j)]) (fun j => [(16, .arr 3 1 (iN (mxL (fun x => if x = B then A else x) s.nm j)))]) (fun j => s.nm.length - j) 0 (by omega) ?_ ?_
                · simp (disch := omega) only [go_sem, seval, reduceCtorEq, ↓reduceIte, beq_dec, Int.toNat_natCast, IntKind.signed, IntKind.bits, Int.natCast_zero, mxL, List.take_zero, List.map_nil, List.nil_append, List.drop_zero]
                · intro j hj
                  have ml := mxL_len (fun x => if x = B then A else x) s.nm j
                  rcases Nat.lt_or_ge j s.nm.length with hjl | hjl
                  · have gj := getD_map (fun x : Nat => [CD.I (x : Int)]) (mxL (fun x => if x = B then A else x) s.nm j) j [] (by omega)
                    have ma := mxL_at (fun x => if x = B then A else x) s.nm j hjl
                    have ms := mxL_set (fun x => if x = B then A else x) s.nm j hjl
                    have mm := mxL_same (fun x => if x = B then A else x) s.nm j hjl
                    rw [ma] at gj
                    by_cases hjb : nth s.nm j = B
                    · have e2 : ((nth s.nm j : Nat) : Int) = (B : Int) := by omega
                      simp only [hjb, if_true] at ms
                      (repeat' (first | refine NextAt.mk (fun hc => ?_) (fun pre n v post hc hkey => ?_) | refine Sni.mk (fun hc => ?_) ?_ | refine Both.mk ?_ ?_ | refine AW_seq ?_ | refine AW_block ?_ | ((first | refine AW_reg ?_ | refine AW_cond ?_ | refine AW_skip ?_ | refine AW_exit ?_ | refine AW_ret ?_ | refine AW_regD (by kernel_rfl) ?_ | refine AW_regX (by kernel_rfl) ?_ | refine CallAtG.t (Eq.refl true) ?_ | refine CallAtG.f (Eq.refl false) ?_); try simp (disch := omega) only [go_sem, seval, reduceCtorEq, ↓reduceIte, beq_dec, Int.toNat_natCast, IntKind.signed, IntKind.bits, List.length_map, gj, e2, Int.toNat_natCast, ml, pl, List.set_cons_zero, iN_set, ms]) | refine And.intro (fun hc => (?_ : AW _ _ _ _)) (fun hc => (?_ : AW _ _ _ _)) | simp (disch := omega) only [go_sem, seval, reduceCtorEq, ↓reduceIte, beq_dec, Int.toNat_natCast, IntKind.signed, IntKind.bits, List.length_map, gj, e2, Int.toNat_natCast, ml, pl, List.set_cons_zero, iN_set, ms] | (refine And.intro ?_ ?_; focus (first | (intros; omega) | (intros; simp_all; done))) | refine And.intro (?_ : CallAt _ _ _ _ _ _ _ _) ?_ | refine And.intro (?_ : CallAt _ _ _ _ _ _ _ _ ∧ _) ?_ | refine And.intro (?_ : AW _ _ _ _) ?_ | fail))
                      · refine .mk (j + 1) (by omega) (by omega) ?_
                        simp (disch := omega) only [go_sem, seval, reduceCtorEq, ↓reduceIte, beq_dec, Int.toNat_natCast, IntKind.signed, IntKind.bits, Int.natCast_add, Int.natCast_one]
                      all_goals (exfalso; omega)
                    · have e2 : (((nth s.nm j : Nat) : Int) = (B : Int)) = False := by simp; omega
                      have mm := mm (if_neg hjb)
                      (repeat' (first | refine NextAt.mk (fun hc => ?_) (fun pre n v post hc hkey => ?_) | refine Sni.mk (fun hc => ?_) ?_ | refine Both.mk ?_ ?_ | refine AW_seq ?_ | refine AW_block ?_ | ((first | refine AW_reg ?_ | refine AW_cond ?_ | refine AW_skip ?_ | refine AW_exit ?_ | refine AW_ret ?_ | refine AW_regD (by kernel_rfl) ?_ | refine AW_regX (by kernel_rfl) ?_ | refine CallAtG.t (Eq.refl true) ?_ | refine CallAtG.f (Eq.refl false) ?_); try simp (disch := omega) only [go_sem, seval, reduceCtorEq, ↓reduceIte, beq_dec, Int.toNat_natCast, IntKind.signed, IntKind.bits, List.length_map, gj, e2, Int.toNat_natCast, ml, pl]) | refine And.intro (fun hc => (?_ : AW _ _ _ _)) (fun hc => (?_ : AW _ _ _ _)) | simp (disch := omega) only [go_sem, seval, reduceCtorEq, ↓reduceIte, beq_dec, Int.toNat_natCast, IntKind.signed, IntKind.bits, List.length_map, gj, e2, Int.toNat_natCast, ml, pl] | (refine And.intro ?_ ?_; focus (first | (intros; omega) | (intros; simp_all; done))) | refine And.intro (?_ : CallAt _ _ _ _ _ _ _ _) ?_ | refine And.intro (?_ : CallAt _ _ _ _ _ _ _ _ ∧ _) ?_ | refine And.intro (?_ : AW _ _ _ _) ?_ | fail))
                      · refine .mk (j + 1) (by omega) (by omega) ?_
                        rw [← mm]
                        simp (disch := omega) only [go_sem, seval, reduceCtorEq, ↓reduceIte, beq_dec, Int.toNat_natCast, IntKind.signed, IntKind.bits, Int.natCast_add, Int.natCast_one]
                      all_goals (exfalso; omega)
                  · obtain rfl : j = s.nm.length := by omega
                    rw [mxL_end]
                    (repeat' (first | refine NextAt.mk (fun hc => ?_) (fun pre n v post hc hkey => ?_) | refine Sni.mk (fun hc => ?_) ?_ | refine Both.mk ?_ ?_ | refine AW_seq ?_ | refine AW_block ?_ | ((first | refine AW_reg ?_ | refine AW_cond ?_ | refine AW_skip ?_ | refine AW_exit ?_ | refine AW_ret ?_ | refine AW_regD (by kernel_rfl) ?_ | refine AW_regX (by kernel_rfl) ?_ | refine CallAtG.t (Eq.refl true) ?_ | refine CallAtG.f (Eq.refl false) ?_); try simp (disch := omega) only [go_sem, seval, reduceCtorEq, ↓reduceIte, beq_dec, Int.toNat_natCast, IntKind.signed, IntKind.bits, List.length_map, pl]) | refine And.intro (fun hc => (?_ : AW _ _ _ _)) (fun hc => (?_ : AW _ _ _ _)) | simp (disch := omega) only [go_sem, seval, reduceCtorEq, ↓reduceIte, beq_dec, Int.toNat_natCast, IntKind.signed, IntKind.bits, List.length_map, pl] | (refine And.intro ?_ ?_; focus (first | (intros; omega) | (intros; simp_all; done))) | refine And.intro (?_ : CallAt _ _ _ _ _ _ _ _) ?_ | refine And.intro (?_ : CallAt _ _ _ _ _ _ _ _ ∧ _) ?_ | refine And.intro (?_ : AW _ _ _ _) ?_ | fail))
                    · exfalso; omega
                    · refine .mk (k + 1) (by omega) (by omega) ?_
                      rw [hsuc]
                      simp (disch := omega) only [go_sem, seval, reduceCtorEq, ↓reduceIte, beq_dec, Int.toNat_natCast, IntKind.signed, IntKind.bits, Int.natCast_add, Int.natCast_one]
                      all_goals rfl
              all_goals (exfalso; omega)
        · obtain rfl : k = es.length := by omega
          (repeat' (first | refine NextAt.mk (fun hc => ?_) (fun pre n v post hc hkey => ?_) | refine Sni.mk (fun hc => ?_) ?_ | refine Both.mk ?_ ?_ | refine AW_seq ?_ | refine AW_block ?_ | ((first | refine AW_reg ?_ | refine AW_cond ?_ | refine AW_skip ?_ | refine AW_exit ?_ | refine AW_ret ?_ | refine AW_regD (by kernel_rfl) ?_ | refine AW_regX (by kernel_rfl) ?_ | refine CallAtG.t (Eq.refl true) ?_ | refine CallAtG.f (Eq.refl false) ?_); try simp (disch := omega) only [go_sem, seval, reduceCtorEq, ↓reduceIte, beq_dec, Int.toNat_natCast, IntKind.signed, IntKind.bits, List.length_map]) | refine And.intro (fun hc => (?_ : AW _ _ _ _)) (fun hc => (?_ : AW _ _ _ _)) | simp (disch := omega) only [go_sem, seval, reduceCtorEq, ↓reduceIte, beq_dec, Int.toNat_natCast, IntKind.signed, IntKind.bits, List.length_map] | (refine And.intro ?_ ?_; focus (first | (intros; omega) | (intros; simp_all; done))) | refine And.intro (?_ : CallAt _ _ _ _ _ _ _ _) ?_ | refine And.intro (?_ : CallAt _ _ _ _ _ _ _ _ ∧ _) ?_ | refine And.intro (?_ : AW _ _ _ _) ?_ | fail))
          · exfalso; omega
          all_goals trace_state
/-! ### the groups of links -/
structure Bs where
  (ks : List Nat) (rows : List (List Int))
/-- the place of a name -/
def bsT (s : Bs) (c : Nat) : Nat := if c ∈ s.ks then s.ks.idxOf c else s.ks.length
def bsN (s : Bs) (c : Nat) : Bs := if c ∈ s.ks then s else ⟨s.ks ++ [c], s.rows ++ [[]]⟩
def blK (is : Nat → Bool) (cls : Nat → Nat) (ids : List Int) (s : Bs) (k : Nat) : Bs :=
  if is k then s else ⟨(bsN s (cls k)).ks, (bsN s (cls k)).rows.set (bsT s (cls k)) ((bsN s (cls k)).rows.getD (bsT s (cls k)) [] ++ [nth ids k])⟩
def blS (is : Nat → Bool) (cls : Nat → Nat) (ids : List Int) : Nat → Bs
  | 0 => ⟨[], []⟩
  | k + 1 => blK is cls ids (blS is cls ids k) k
theorem blS_len (is : Nat → Bool) (cls : Nat → Nat) (ids : List Int) : ∀ k, (blS is cls ids k).ks.length = (blS is cls ids k).rows.length ∧ (blS is cls ids k).rows.length ≤ k ∧ ∀ h, ((blS is cls ids k).rows.getD h []).length ≤ k
  | 0 => by simp [blS, List.getD]
  | k + 1 => by
    obtain ⟨a, b, c⟩ := blS_len is cls ids k
    simp only [blS, blK]
    split
    · exact ⟨a, by omega, fun h => by have := c h; omega⟩
    · have hN : (bsN (blS is cls ids k) (cls k)).ks.length = (bsN (blS is cls ids k) (cls k)).rows.length ∧ (bsN (blS is cls ids k) (cls k)).rows.length ≤ k + 1 ∧ ∀ h, ((bsN (blS is cls ids k) (cls k)).rows.getD h []).length ≤ k := by
        unfold bsN
        split
        · exact ⟨a, by omega, c⟩
        · refine ⟨by simp [a], by simp; omega, fun h => ?_⟩
          have := c h
          simp only [List.getD, List.getElem?_append] at this ⊢
          split
          · exact this
          · rcases hh : h - (blS is cls ids k).rows.length with _ | n <;> simp
      obtain ⟨p, q, r⟩ := hN
      refine ⟨by simp [p], by simp; omega, fun h => ?_⟩
      have r1 := r (bsT (blS is cls ids k) (cls k))
      have r2 := r h
      simp only [List.getD, List.getElem?_set] at r1 r2 ⊢
      split
      · split
        · simp; omega
        · simp
      · omega
theorem bsT_lt {s : Bs} (h : s.ks.length = s.rows.length) (c : Nat) : bsT s c < (bsN s c).rows.length := by
  unfold bsT bsN
  split
  · rename_i hc
    have := List.idxOf_lt_length_iff.2 hc
    omega
  · simp; omega
theorem mlook_mset' (es : List (List Int × Sum CD (List CD))) (k x : List Int) (v : Sum CD (List CD)) : mlook (mset es k v) x = if x = k then some v else mlook es x := by
  induction es with
  | nil => simp only [mset, mlook]
  | cons e es ih =>
    obtain ⟨m, a⟩ := e
    unfold mset
    by_cases h : k = m
    · subst h
      rw [if_pos rfl]
      simp only [mlook]
      split <;> rfl
    · rw [if_neg h]
      simp only [mlook, ih]
      by_cases hx : x = m
      · subst hx; rw [if_pos rfl, if_pos rfl, if_neg (fun e => h e.symm)]
      · rw [if_neg hx, if_neg hx]
/-- the map says the places of the names -/
def BSay (es : List (List Int × Sum CD (List CD))) (s : Bs) : Prop := ∀ c : Nat, mlook es [(c : Int)] = if c ∈ s.ks then some (.inl (.I (s.ks.idxOf c : Nat))) else none
theorem BSay.old {es : List (List Int × Sum CD (List CD))} {s : Bs} {c : Nat} (h : BSay es s) (hc : c ∈ s.ks) : BSay es (bsN s c) := by unfold bsN; rw [if_pos hc]; exact h
theorem BSay.new {es : List (List Int × Sum CD (List CD))} {s : Bs} {c : Nat} (h : BSay es s) (hc : c ∉ s.ks) : BSay (mset es [(c : Int)] (.inl (.I (s.ks.length : Nat)))) (bsN s c) := fun x => by
  unfold bsN
  rw [if_neg hc, mlook_mset', h x]
  simp only [List.mem_append, List.mem_singleton]
  by_cases e : x = c
  · subst e
    rw [if_pos rfl, if_pos (.inr rfl), List.idxOf_append, if_neg hc]
    simp
  · have e2 : ¬ [(x : Int)] = [(c : Int)] := by simp; omega
    rw [if_neg e2]
    by_cases hx : x ∈ s.ks
    · rw [if_pos hx, if_pos (.inl hx), List.idxOf_append, if_pos hx]
    · rw [if_neg hx, if_neg (by rintro (h | h); exact hx h; exact e h)]
end Go.Proofs.Ytgldpbghbkoolaa

