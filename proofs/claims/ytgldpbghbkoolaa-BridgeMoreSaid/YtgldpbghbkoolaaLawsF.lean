/-
  A flow without one link is as large, or one smaller.
-/
import Derived.Test.YtgldpbghbkoolaaPlainJ
import Derived.Test.YtgldpbghbkoolaaWalkF
import Derived.Test.YtgldpbghbkoolaaWalkA
set_option linter.unusedVariables false
set_option linter.unusedSimpArgs false
-- P p_15.txt
open Go Go.AL Go.RowKit
namespace Go.Proofs.Ytgldpbghbkoolaa
set_option maxRecDepth 20000
/- coinage/coinagelaw15.BridgeMore -/
abbrev c8_1 : AC := .reg [⟨(some 3), .box 25 (some 3) (.t 0), none⟩,
  ⟨(some 5), .box 53 (some 4) (.t 2), none⟩,
  ⟨(some 6), .mv (.k (.B false)), none⟩] false
abbrev c8_2 : AC := .reg [⟨(some 14), .call 9 [], none⟩,
  ⟨(some 15), .not (.t 14), none⟩,
  ⟨(some 16), .mv (.t 15), none⟩,
  ⟨(some 17), .ld (some 3) (.t 3), (some (16, false))⟩,
  ⟨(some 18), .call 10 [(.t 17)], (some (16, false))⟩,
  ⟨(some 19), .not (.t 18), (some (16, false))⟩,
  ⟨(some 20), .pick (.t 16) (.k (.B true)) (.t 19), none⟩,
  ⟨(some 21), .mv (.t 20), none⟩,
  ⟨(some 22), .fad 2 (.t 3), (some (21, false))⟩,
  ⟨(some 23), .ld none (.t 22), (some (21, false))⟩,
  ⟨(some 24), .len (.t 23), (some (21, false))⟩,
  ⟨(some 25), .bin .eql (.t 24) (.k (.I 0)), (some (21, false))⟩,
  ⟨(some 26), .pick (.t 21) (.k (.B true)) (.t 25), none⟩] false
abbrev c8_3 : AC := .reg [⟨(some 27), .call 9 [], none⟩,
  ⟨(some 6), .mv (.t 27), none⟩] false
abbrev c8_4 : AC := .seq c8_3 .ret
abbrev c8_5 : AC := .cond (.t 26) c8_4 .skip
abbrev c8_6 : AC := .seq c8_2 c8_5
abbrev c8_7 : AC := .regD [(⟨(some 28), .fad 2 (.t 3), none⟩, [3]),
  (⟨(some 29), .ld none (.t 28), none⟩, [28]),
  (⟨(some 30), .mv (.t 1), none⟩, [1]),
  (⟨(some 31), .conv .i64 (.t 30), none⟩, [30]),
  (⟨(some 32), .fad 2 (.t 3), none⟩, [3]),
  (⟨(some 33), .ld none (.t 32), none⟩, [32]),
  (⟨(some 34), .len (.t 33), none⟩, [33]),
  (⟨(some 35), .bin .rem (.t 31) (.t 34), none⟩, [31, 34]),
  (⟨(some 36), .iad 3 (.t 29) (.t 35), none⟩, [29, 35]),
  (⟨(some 37), .fad 0 (.t 36), none⟩, [36]),
  (⟨(some 38), .ld none (.t 37), none⟩, [37]),
  (⟨(some 7), .mv (.t 38), none⟩, [38])]
abbrev c8_8 : AC := .reg [⟨(some 40), .ld (some 3) (.t 3), none⟩,
  ⟨(some 41), .mv (.t 7), none⟩,
  ⟨(some 42), .call 31 [(.t 40), (.t 41)], none⟩,
  ⟨(some 39), .mv (.t 42), none⟩,
  ⟨(some 43), .ext (.t 39) 0, none⟩,
  ⟨(some 44), .ext (.t 39) 1, none⟩,
  ⟨(some 8), .alloc 25 [(.c .nil), (.c .nil), (.c .nil)], none⟩,
  ⟨none, .st (some 3) (.t 8) (.t 43), none⟩,
  ⟨(some 9), .mv (.t 44), none⟩] false
abbrev c8_9 : AC := .reg [⟨(some 46), .ld (some 3) (.t 3), none⟩,
  ⟨(some 47), .iadA 2 2 (.t 5) (.k (.I 0)), none⟩,
  ⟨(some 48), .ld (some 2) (.t 47), none⟩,
  ⟨(some 49), .iadA 2 2 (.t 5) (.k (.I 1)), none⟩,
  ⟨(some 50), .ld (some 2) (.t 49), none⟩,
  ⟨(some 51), .call 11 [(.t 46), (.t 48), (.t 50)], none⟩,
  ⟨(some 45), .mv (.t 51), none⟩,
  ⟨(some 52), .ext (.t 45) 0, none⟩,
  ⟨(some 53), .ext (.t 45) 1, none⟩,
  ⟨(some 10), .mv (.t 52), none⟩,
  ⟨(some 11), .mv (.t 53), none⟩] false
abbrev c8_10 : AC := .reg [⟨(some 54), .mv (.t 9), none⟩,
  ⟨(some 55), .bin .neq (.t 54) (.k (.I 0)), none⟩,
  ⟨(some 56), .mv (.t 55), none⟩,
  ⟨(some 57), .mv (.t 11), (some (56, false))⟩,
  ⟨(some 58), .bin .neq (.t 57) (.k (.I 0)), (some (56, false))⟩,
  ⟨(some 59), .pick (.t 56) (.k (.B true)) (.t 58), none⟩] false
abbrev c8_11 : AC := .reg [⟨(some 60), .mv (.t 10), none⟩,
  ⟨(some 61), .bin .eql (.t 60) (.k (.I 0)), none⟩,
  ⟨(some 62), .mv (.t 61), none⟩,
  ⟨(some 63), .mv (.t 9), (some (62, false))⟩,
  ⟨(some 64), .bin .neq (.t 63) (.k (.I 0)), (some (62, false))⟩,
  ⟨(some 65), .pick (.t 62) (.k (.B true)) (.t 64), none⟩,
  ⟨(some 6), .mv (.t 65), none⟩] false
abbrev c8_12 : AC := .seq c8_11 .ret
abbrev c8_13 : AC := .cond (.t 59) c8_12 .skip
abbrev c8_14 : AC := .seq c8_10 c8_13
abbrev c8_15 : AC := .reg [⟨(some 67), .ld (some 3) (.t 8), none⟩,
  ⟨(some 68), .iadA 2 2 (.t 5) (.k (.I 0)), none⟩,
  ⟨(some 69), .ld (some 2) (.t 68), none⟩,
  ⟨(some 70), .iadA 2 2 (.t 5) (.k (.I 1)), none⟩,
  ⟨(some 71), .ld (some 2) (.t 70), none⟩,
  ⟨(some 72), .call 11 [(.t 67), (.t 69), (.t 71)], none⟩,
  ⟨(some 66), .mv (.t 72), none⟩,
  ⟨(some 73), .ext (.t 66) 0, none⟩,
  ⟨(some 74), .ext (.t 66) 1, none⟩,
  ⟨(some 12), .mv (.t 73), none⟩,
  ⟨(some 13), .mv (.t 74), none⟩] false
abbrev c8_16 : AC := .reg [⟨(some 75), .mv (.t 13), none⟩,
  ⟨(some 76), .bin .neq (.t 75) (.k (.I 0)), none⟩] false
abbrev c8_17 : AC := .reg [⟨(some 77), .mv (.t 13), none⟩,
  ⟨(some 78), .bin .eql (.t 77) (.k (.I 7)), none⟩,
  ⟨(some 79), .mv (.t 78), none⟩,
  ⟨(some 80), .mv (.t 10), (some (79, true))⟩,
  ⟨(some 81), .bin .leq (.t 80) (.k (.I 1)), (some (79, true))⟩,
  ⟨(some 82), .pick (.t 79) (.t 81) (.k (.B false)), none⟩,
  ⟨(some 6), .mv (.t 82), none⟩] false
abbrev c8_18 : AC := .seq c8_17 .ret
abbrev c8_19 : AC := .cond (.t 76) c8_18 .skip
abbrev c8_20 : AC := .seq c8_16 c8_19
abbrev c8_21 : AC := .reg [⟨(some 83), .mv (.t 12), none⟩,
  ⟨(some 84), .mv (.t 10), none⟩,
  ⟨(some 85), .bin .leq (.t 83) (.t 84), none⟩,
  ⟨(some 86), .mv (.t 85), none⟩,
  ⟨(some 87), .mv (.t 12), (some (86, true))⟩,
  ⟨(some 88), .mv (.t 10), (some (86, true))⟩,
  ⟨(some 89), .bin .sub (.t 88) (.k (.I 1)), (some (86, true))⟩,
  ⟨(some 90), .bin .geq (.t 87) (.t 89), (some (86, true))⟩,
  ⟨(some 91), .pick (.t 86) (.t 90) (.k (.B false)), none⟩,
  ⟨(some 6), .mv (.t 91), none⟩] false
abbrev c8_22 : AC := .seq c8_21 .ret
abbrev c8_23 : AC := .seq c8_20 c8_22
abbrev c8_24 : AC := .seq c8_15 c8_23
abbrev c8_25 : AC := .seq c8_14 c8_24
abbrev c8_26 : AC := .seq c8_9 c8_25
abbrev c8_27 : AC := .seq c8_8 c8_26
abbrev c8_28 : AC := .seq c8_7 c8_27
abbrev c8_29 : AC := .seq c8_6 c8_28
abbrev c8_30 : AC := .seq c8_1 c8_29
abbrev c8 : AC := c8_30
theorem code8 : fnCode Try.prog 8 = some (c8, [6], 92) := by kernel_rfl

theorem two_of {ds : List CD} (h : Ty [.int .i64, .int .i64, .int .i64, .int .i64] ds) : ∃ a b : Die, ds = [.I a.side, .I a.num, .I b.side, .I b.num] := by
  obtain ⟨x1, _, rfl, _, h⟩ := h.int_inv
  obtain ⟨x2, _, rfl, _, h⟩ := h.int_inv
  obtain ⟨x3, _, rfl, _, h⟩ := h.int_inv
  obtain ⟨x4, _, rfl, _, h⟩ := h.int_inv
  obtain rfl := h.nil_inv
  exact ⟨⟨x1, x2⟩, ⟨x3, x4⟩, rfl⟩
abbrev twoAV (a b : Die) : AV := .agg [.I a.side, .I a.num, .I b.side, .I b.num]
set_option maxHeartbeats 4000000 in
theorem n8 (g : Gr) (at' : Int) (a b : Die) (h0 : 0 ≤ at' ∧ at' ≤ 255) : FnR Try.prog 8 [g.av, .c (.sc (.int .u8 at')), twoAV a b] [.c (.B true)] := by
  have g10 := n10 g
  generalize hfw : decide (g.obv.length ≤ 35 ∧ g.rev.length ≤ 35 ∧ g.links.length ≤ 16) = fw at *
  have g11 := n11 g a b
  cases fw with
  | false =>
    refine fn_walk code8 (by simp) ?_
    (repeat' (first | refine NextAt.mk (fun hc => ?_) (fun pre n v post hc hkey => ?_) | refine Sni.mk (fun hc => ?_) ?_ | refine Both.mk ?_ ?_ | refine AW_seq ?_ | refine AW_block ?_ | ((first | refine AW_reg ?_ | refine AW_cond ?_ | refine AW_skip ?_ | refine AW_exit ?_ | refine AW_ret ?_ | refine AW_regD (by kernel_rfl) ?_ | refine AW_regX (by kernel_rfl) ?_ | refine CallAtG.t (Eq.refl true) ?_ | refine CallAtG.f (Eq.refl false) ?_ | refine CallAt.mk _ (n9 ..) (by first | (intro h; cases h; done) | (intro _; repeat' (first | exact List.forall_mem_nil _ | trivial | refine List.forall_mem_cons.2 ⟨?_, ?_⟩)) | (intro _; simp [RV.flatP, CD.flatP]; done)) ?_ | refine CallAtG.mk _ (fun _ => n9 ..) ?_ | refine CallDS.mk _ (by simp [RV.data]) (fun _ => n9 ..) (by first | (intro h; cases h; done) | (intro _; repeat' (first | exact List.forall_mem_nil _ | trivial | refine List.forall_mem_cons.2 ⟨?_, ?_⟩)) | (intro _; simp [RV.flatP, CD.flatP]; done)) ?_ | refine CallAt.mk _ (g10 ..) (by first | (intro h; cases h; done) | (intro _; repeat' (first | exact List.forall_mem_nil _ | trivial | refine List.forall_mem_cons.2 ⟨?_, ?_⟩)) | (intro _; simp [RV.flatP, CD.flatP]; done)) ?_ | refine CallAtG.mk _ (fun _ => g10 ..) ?_ | refine CallDS.mk _ (by simp [RV.data]) (fun _ => g10 ..) (by first | (intro h; cases h; done) | (intro _; repeat' (first | exact List.forall_mem_nil _ | trivial | refine List.forall_mem_cons.2 ⟨?_, ?_⟩)) | (intro _; simp [RV.flatP, CD.flatP]; done)) ?_); try simp (disch := omega) only [go_sem, seval, reduceCtorEq, ↓reduceIte, beq_dec, Int.toNat_natCast, IntKind.signed, IntKind.bits]) | refine And.intro (fun hc => (?_ : AW _ _ _ _)) (fun hc => (?_ : AW _ _ _ _)) | simp (disch := omega) only [go_sem, seval, reduceCtorEq, ↓reduceIte, beq_dec, Int.toNat_natCast, IntKind.signed, IntKind.bits] | (refine And.intro ?_ ?_; focus (first | (intros; omega) | (intros; simp_all; done))) | refine And.intro (?_ : CallAt _ _ _ _ _ _ _ _) ?_ | refine And.intro (?_ : CallAt _ _ _ _ _ _ _ _ ∧ _) ?_ | refine And.intro (?_ : AW _ _ _ _) ?_ | fail))
  | true =>
  have hl16 := (of_decide_eq_true hfw).2.2
  by_cases hl : g.links.length = 0
  · have e1 : ((g.links.length : Int) = 0) = True := eq_true (by omega)
    refine fn_walk code8 (by simp) ?_
    (repeat' (first | refine NextAt.mk (fun hc => ?_) (fun pre n v post hc hkey => ?_) | refine Sni.mk (fun hc => ?_) ?_ | refine Both.mk ?_ ?_ | refine AW_seq ?_ | refine AW_block ?_ | ((first | refine AW_reg ?_ | refine AW_cond ?_ | refine AW_skip ?_ | refine AW_exit ?_ | refine AW_ret ?_ | refine AW_regD (by kernel_rfl) ?_ | refine AW_regX (by kernel_rfl) ?_ | refine CallAtG.t (Eq.refl true) ?_ | refine CallAtG.f (Eq.refl false) ?_ | refine CallAt.mk _ (n9 ..) (by first | (intro h; cases h; done) | (intro _; repeat' (first | exact List.forall_mem_nil _ | trivial | refine List.forall_mem_cons.2 ⟨?_, ?_⟩)) | (intro _; simp [RV.flatP, CD.flatP, List.length_map, e1]; done)) ?_ | refine CallAtG.mk _ (fun _ => n9 ..) ?_ | refine CallDS.mk _ (by simp [RV.data]) (fun _ => n9 ..) (by first | (intro h; cases h; done) | (intro _; repeat' (first | exact List.forall_mem_nil _ | trivial | refine List.forall_mem_cons.2 ⟨?_, ?_⟩)) | (intro _; simp [RV.flatP, CD.flatP, List.length_map, e1]; done)) ?_ | refine CallAt.mk _ (g10 ..) (by first | (intro h; cases h; done) | (intro _; repeat' (first | exact List.forall_mem_nil _ | trivial | refine List.forall_mem_cons.2 ⟨?_, ?_⟩)) | (intro _; simp [RV.flatP, CD.flatP, List.length_map, e1]; done)) ?_ | refine CallAtG.mk _ (fun _ => g10 ..) ?_ | refine CallDS.mk _ (by simp [RV.data]) (fun _ => g10 ..) (by first | (intro h; cases h; done) | (intro _; repeat' (first | exact List.forall_mem_nil _ | trivial | refine List.forall_mem_cons.2 ⟨?_, ?_⟩)) | (intro _; simp [RV.flatP, CD.flatP, List.length_map, e1]; done)) ?_); try simp (disch := omega) only [go_sem, seval, reduceCtorEq, ↓reduceIte, beq_dec, Int.toNat_natCast, IntKind.signed, IntKind.bits, List.length_map, e1]) | refine And.intro (fun hc => (?_ : AW _ _ _ _)) (fun hc => (?_ : AW _ _ _ _)) | simp (disch := omega) only [go_sem, seval, reduceCtorEq, ↓reduceIte, beq_dec, Int.toNat_natCast, IntKind.signed, IntKind.bits, List.length_map, e1] | (refine And.intro ?_ ?_; focus (first | (intros; omega) | (intros; simp_all; done))) | refine And.intro (?_ : CallAt _ _ _ _ _ _ _ _) ?_ | refine And.intro (?_ : CallAt _ _ _ _ _ _ _ _ ∧ _) ?_ | refine And.intro (?_ : AW _ _ _ _) ?_ | fail))
  · have e1 : ((g.links.length : Int) = 0) = False := eq_false (by omega)
    obtain ⟨i, hi, hrm⟩ : ∃ i : Nat, i < g.links.length ∧ at'.tmod (g.links.length : Int) = (i : Int) := by
      refine ⟨at'.toNat % g.links.length, Nat.mod_lt _ (by omega), ?_⟩
      rw [Int.tmod_eq_emod_of_nonneg h0.1]
      conv => lhs; rw [show at' = ((at'.toNat : Nat) : Int) by omega]
      rw [Int.natCast_emod]
    have hg := getD_map Lk.cd g.links i [] hi
    simp only [Lk.cd] at hg
    have hkm := nth_mem'' g.links i hi
    generalize nth g.links i = k at *
    cases hv : validG g with
    | false =>
      have hE : flowE g a b = 1 := by unfold flowE; rw [hv]; rfl
      have hV : flowV g a b = 0 := flowV_err (by rw [hE]; decide)
      rw [hE, hV] at g11
      have g31 := q33e g k.id hv
      refine fn_walk code8 (by simp) ?_
      (repeat' (first | refine NextAt.mk (fun hc => ?_) (fun pre n v post hc hkey => ?_) | refine Sni.mk (fun hc => ?_) ?_ | refine Both.mk ?_ ?_ | refine AW_seq ?_ | refine AW_block ?_ | ((first | refine AW_reg ?_ | refine AW_cond ?_ | refine AW_skip ?_ | refine AW_exit ?_ | refine AW_ret ?_ | refine AW_regD (by kernel_rfl) ?_ | refine AW_regX (by kernel_rfl) ?_ | refine CallAtG.t (Eq.refl true) ?_ | refine CallAtG.f (Eq.refl false) ?_ | refine CallAt.mk _ (n9 ..) (by first | (intro h; cases h; done) | (intro _; repeat' (first | exact List.forall_mem_nil _ | trivial | refine List.forall_mem_cons.2 ⟨?_, ?_⟩)) | (intro _; simp [RV.flatP, CD.flatP, List.length_map, e1, hrm, hg, inK, Int.toNat_natCast]; done)) ?_ | refine CallAtG.mk _ (fun _ => n9 ..) ?_ | refine CallDS.mk _ (by simp [RV.data]) (fun _ => n9 ..) (by first | (intro h; cases h; done) | (intro _; repeat' (first | exact List.forall_mem_nil _ | trivial | refine List.forall_mem_cons.2 ⟨?_, ?_⟩)) | (intro _; simp [RV.flatP, CD.flatP, List.length_map, e1, hrm, hg, inK, Int.toNat_natCast]; done)) ?_ | refine CallAt.mk _ (g10 ..) (by first | (intro h; cases h; done) | (intro _; repeat' (first | exact List.forall_mem_nil _ | trivial | refine List.forall_mem_cons.2 ⟨?_, ?_⟩)) | (intro _; simp [RV.flatP, CD.flatP, List.length_map, e1, hrm, hg, inK, Int.toNat_natCast]; done)) ?_ | refine CallAtG.mk _ (fun _ => g10 ..) ?_ | refine CallDS.mk _ (by simp [RV.data]) (fun _ => g10 ..) (by first | (intro h; cases h; done) | (intro _; repeat' (first | exact List.forall_mem_nil _ | trivial | refine List.forall_mem_cons.2 ⟨?_, ?_⟩)) | (intro _; simp [RV.flatP, CD.flatP, List.length_map, e1, hrm, hg, inK, Int.toNat_natCast]; done)) ?_ | refine CallAt.mk _ (g11 ..) (by first | (intro h; cases h; done) | (intro _; repeat' (first | exact List.forall_mem_nil _ | trivial | refine List.forall_mem_cons.2 ⟨?_, ?_⟩)) | (intro _; simp [RV.flatP, CD.flatP, List.length_map, e1, hrm, hg, inK, Int.toNat_natCast]; done)) ?_ | refine CallAtG.mk _ (fun _ => g11 ..) ?_ | refine CallDS.mk _ (by simp [RV.data]) (fun _ => g11 ..) (by first | (intro h; cases h; done) | (intro _; repeat' (first | exact List.forall_mem_nil _ | trivial | refine List.forall_mem_cons.2 ⟨?_, ?_⟩)) | (intro _; simp [RV.flatP, CD.flatP, List.length_map, e1, hrm, hg, inK, Int.toNat_natCast]; done)) ?_ | refine CallAt.mk _ (g31 ..) (by first | (intro h; cases h; done) | (intro _; repeat' (first | exact List.forall_mem_nil _ | trivial | refine List.forall_mem_cons.2 ⟨?_, ?_⟩)) | (intro _; simp [RV.flatP, CD.flatP, List.length_map, e1, hrm, hg, inK, Int.toNat_natCast]; done)) ?_ | refine CallAtG.mk _ (fun _ => g31 ..) ?_ | refine CallDS.mk _ (by simp [RV.data]) (fun _ => g31 ..) (by first | (intro h; cases h; done) | (intro _; repeat' (first | exact List.forall_mem_nil _ | trivial | refine List.forall_mem_cons.2 ⟨?_, ?_⟩)) | (intro _; simp [RV.flatP, CD.flatP, List.length_map, e1, hrm, hg, inK, Int.toNat_natCast]; done)) ?_); try simp (disch := omega) only [go_sem, seval, reduceCtorEq, ↓reduceIte, beq_dec, Int.toNat_natCast, IntKind.signed, IntKind.bits, List.length_map, e1, hrm, hg, inK, Int.toNat_natCast]) | refine And.intro (fun hc => (?_ : AW _ _ _ _)) (fun hc => (?_ : AW _ _ _ _)) | simp (disch := omega) only [go_sem, seval, reduceCtorEq, ↓reduceIte, beq_dec, Int.toNat_natCast, IntKind.signed, IntKind.bits, List.length_map, e1, hrm, hg, inK, Int.toNat_natCast] | (refine And.intro ?_ ?_; focus (first | (intros; omega) | (intros; simp_all; done))) | refine And.intro (?_ : CallAt _ _ _ _ _ _ _ _) ?_ | refine And.intro (?_ : CallAt _ _ _ _ _ _ _ _ ∧ _) ?_ | refine And.intro (?_ : AW _ _ _ _) ?_ | refine And.intro (?_ : _ ∧ _) ?_ | fail))
      all_goals first
        | omega
        | trace_state
    | true =>
      have hwl := wo_len (valid_ids hv) hkm
      have g31 := q33 g k.id hv (by omega)
      by_cases hE : flowE g a b = 0
      · have hm := more hkm hE
        have g11h := n11 (woG g k.id) a b
        rw [hE] at g11
        by_cases hH : flowE (woG g k.id) a b = 0
        · obtain ⟨m1, m2⟩ := hm.1 hH
          have hVb : 0 ≤ flowV g a b ∧ flowV g a b ≤ g.links.length := by
            obtain ⟨⟨T, _, _, t3⟩, _⟩ := flow_D hE
            rw [← t3]
            have : cutD g.links T ≤ g.links.length := List.length_filter_le _ _
            omega
          have d1 : decide (flowV (woG g k.id) a b ≤ flowV g a b) = true := decide_eq_true m1
          have d2 : decide (flowV g a b - 1 ≤ flowV (woG g k.id) a b) = true := decide_eq_true m2
          rw [hH] at g11h
          generalize flowV g a b = V at *
          generalize flowV (woG g k.id) a b = W at *
          refine fn_walk code8 (by simp) ?_
          (repeat' (first | refine NextAt.mk (fun hc => ?_) (fun pre n v post hc hkey => ?_) | refine Sni.mk (fun hc => ?_) ?_ | refine Both.mk ?_ ?_ | refine AW_seq ?_ | refine AW_block ?_ | ((first | refine AW_reg ?_ | refine AW_cond ?_ | refine AW_skip ?_ | refine AW_exit ?_ | refine AW_ret ?_ | refine AW_regD (by kernel_rfl) ?_ | refine AW_regX (by kernel_rfl) ?_ | refine CallAtG.t (Eq.refl true) ?_ | refine CallAtG.f (Eq.refl false) ?_ | refine CallAt.mk _ (n9 ..) (by first | (intro h; cases h; done) | (intro _; repeat' (first | exact List.forall_mem_nil _ | trivial | refine List.forall_mem_cons.2 ⟨?_, ?_⟩)) | (intro _; simp [RV.flatP, CD.flatP, List.length_map, e1, hrm, hg, inK, Int.toNat_natCast, d1, d2]; done)) ?_ | refine CallAtG.mk _ (fun _ => n9 ..) ?_ | refine CallDS.mk _ (by simp [RV.data]) (fun _ => n9 ..) (by first | (intro h; cases h; done) | (intro _; repeat' (first | exact List.forall_mem_nil _ | trivial | refine List.forall_mem_cons.2 ⟨?_, ?_⟩)) | (intro _; simp [RV.flatP, CD.flatP, List.length_map, e1, hrm, hg, inK, Int.toNat_natCast, d1, d2]; done)) ?_ | refine CallAt.mk _ (g10 ..) (by first | (intro h; cases h; done) | (intro _; repeat' (first | exact List.forall_mem_nil _ | trivial | refine List.forall_mem_cons.2 ⟨?_, ?_⟩)) | (intro _; simp [RV.flatP, CD.flatP, List.length_map, e1, hrm, hg, inK, Int.toNat_natCast, d1, d2]; done)) ?_ | refine CallAtG.mk _ (fun _ => g10 ..) ?_ | refine CallDS.mk _ (by simp [RV.data]) (fun _ => g10 ..) (by first | (intro h; cases h; done) | (intro _; repeat' (first | exact List.forall_mem_nil _ | trivial | refine List.forall_mem_cons.2 ⟨?_, ?_⟩)) | (intro _; simp [RV.flatP, CD.flatP, List.length_map, e1, hrm, hg, inK, Int.toNat_natCast, d1, d2]; done)) ?_ | refine CallAt.mk _ (g11 ..) (by first | (intro h; cases h; done) | (intro _; repeat' (first | exact List.forall_mem_nil _ | trivial | refine List.forall_mem_cons.2 ⟨?_, ?_⟩)) | (intro _; simp [RV.flatP, CD.flatP, List.length_map, e1, hrm, hg, inK, Int.toNat_natCast, d1, d2]; done)) ?_ | refine CallAtG.mk _ (fun _ => g11 ..) ?_ | refine CallDS.mk _ (by simp [RV.data]) (fun _ => g11 ..) (by first | (intro h; cases h; done) | (intro _; repeat' (first | exact List.forall_mem_nil _ | trivial | refine List.forall_mem_cons.2 ⟨?_, ?_⟩)) | (intro _; simp [RV.flatP, CD.flatP, List.length_map, e1, hrm, hg, inK, Int.toNat_natCast, d1, d2]; done)) ?_ | refine CallAt.mk _ (g11h ..) (by first | (intro h; cases h; done) | (intro _; repeat' (first | exact List.forall_mem_nil _ | trivial | refine List.forall_mem_cons.2 ⟨?_, ?_⟩)) | (intro _; simp [RV.flatP, CD.flatP, List.length_map, e1, hrm, hg, inK, Int.toNat_natCast, d1, d2]; done)) ?_ | refine CallAtG.mk _ (fun _ => g11h ..) ?_ | refine CallDS.mk _ (by simp [RV.data]) (fun _ => g11h ..) (by first | (intro h; cases h; done) | (intro _; repeat' (first | exact List.forall_mem_nil _ | trivial | refine List.forall_mem_cons.2 ⟨?_, ?_⟩)) | (intro _; simp [RV.flatP, CD.flatP, List.length_map, e1, hrm, hg, inK, Int.toNat_natCast, d1, d2]; done)) ?_ | refine CallAt.mk _ (g31 ..) (by first | (intro h; cases h; done) | (intro _; repeat' (first | exact List.forall_mem_nil _ | trivial | refine List.forall_mem_cons.2 ⟨?_, ?_⟩)) | (intro _; simp [RV.flatP, CD.flatP, List.length_map, e1, hrm, hg, inK, Int.toNat_natCast, d1, d2]; done)) ?_ | refine CallAtG.mk _ (fun _ => g31 ..) ?_ | refine CallDS.mk _ (by simp [RV.data]) (fun _ => g31 ..) (by first | (intro h; cases h; done) | (intro _; repeat' (first | exact List.forall_mem_nil _ | trivial | refine List.forall_mem_cons.2 ⟨?_, ?_⟩)) | (intro _; simp [RV.flatP, CD.flatP, List.length_map, e1, hrm, hg, inK, Int.toNat_natCast, d1, d2]; done)) ?_); try simp (disch := omega) only [go_sem, seval, reduceCtorEq, ↓reduceIte, beq_dec, Int.toNat_natCast, IntKind.signed, IntKind.bits, List.length_map, e1, hrm, hg, inK, Int.toNat_natCast, d1, d2]) | refine And.intro (fun hc => (?_ : AW _ _ _ _)) (fun hc => (?_ : AW _ _ _ _)) | simp (disch := omega) only [go_sem, seval, reduceCtorEq, ↓reduceIte, beq_dec, Int.toNat_natCast, IntKind.signed, IntKind.bits, List.length_map, e1, hrm, hg, inK, Int.toNat_natCast, d1, d2] | (refine And.intro ?_ ?_; focus (first | (intros; omega) | (intros; simp_all; done))) | refine And.intro (?_ : CallAt _ _ _ _ _ _ _ _) ?_ | refine And.intro (?_ : CallAt _ _ _ _ _ _ _ _ ∧ _) ?_ | refine And.intro (?_ : AW _ _ _ _) ?_ | refine And.intro (?_ : _ ∧ _) ?_ | fail))
          all_goals first
            | omega
            | trace_state
        · obtain ⟨m1, m2⟩ := hm.2 hH
          rw [m1] at g11h
          generalize flowV g a b = V at *
          generalize flowV (woG g k.id) a b = W at *
          refine fn_walk code8 (by simp) ?_
          (repeat' (first | refine NextAt.mk (fun hc => ?_) (fun pre n v post hc hkey => ?_) | refine Sni.mk (fun hc => ?_) ?_ | refine Both.mk ?_ ?_ | refine AW_seq ?_ | refine AW_block ?_ | ((first | refine AW_reg ?_ | refine AW_cond ?_ | refine AW_skip ?_ | refine AW_exit ?_ | refine AW_ret ?_ | refine AW_regD (by kernel_rfl) ?_ | refine AW_regX (by kernel_rfl) ?_ | refine CallAtG.t (Eq.refl true) ?_ | refine CallAtG.f (Eq.refl false) ?_ | refine CallAt.mk _ (n9 ..) (by first | (intro h; cases h; done) | (intro _; repeat' (first | exact List.forall_mem_nil _ | trivial | refine List.forall_mem_cons.2 ⟨?_, ?_⟩)) | (intro _; simp [RV.flatP, CD.flatP, List.length_map, e1, hrm, hg, inK, Int.toNat_natCast]; done)) ?_ | refine CallAtG.mk _ (fun _ => n9 ..) ?_ | refine CallDS.mk _ (by simp [RV.data]) (fun _ => n9 ..) (by first | (intro h; cases h; done) | (intro _; repeat' (first | exact List.forall_mem_nil _ | trivial | refine List.forall_mem_cons.2 ⟨?_, ?_⟩)) | (intro _; simp [RV.flatP, CD.flatP, List.length_map, e1, hrm, hg, inK, Int.toNat_natCast]; done)) ?_ | refine CallAt.mk _ (g10 ..) (by first | (intro h; cases h; done) | (intro _; repeat' (first | exact List.forall_mem_nil _ | trivial | refine List.forall_mem_cons.2 ⟨?_, ?_⟩)) | (intro _; simp [RV.flatP, CD.flatP, List.length_map, e1, hrm, hg, inK, Int.toNat_natCast]; done)) ?_ | refine CallAtG.mk _ (fun _ => g10 ..) ?_ | refine CallDS.mk _ (by simp [RV.data]) (fun _ => g10 ..) (by first | (intro h; cases h; done) | (intro _; repeat' (first | exact List.forall_mem_nil _ | trivial | refine List.forall_mem_cons.2 ⟨?_, ?_⟩)) | (intro _; simp [RV.flatP, CD.flatP, List.length_map, e1, hrm, hg, inK, Int.toNat_natCast]; done)) ?_ | refine CallAt.mk _ (g11 ..) (by first | (intro h; cases h; done) | (intro _; repeat' (first | exact List.forall_mem_nil _ | trivial | refine List.forall_mem_cons.2 ⟨?_, ?_⟩)) | (intro _; simp [RV.flatP, CD.flatP, List.length_map, e1, hrm, hg, inK, Int.toNat_natCast]; done)) ?_ | refine CallAtG.mk _ (fun _ => g11 ..) ?_ | refine CallDS.mk _ (by simp [RV.data]) (fun _ => g11 ..) (by first | (intro h; cases h; done) | (intro _; repeat' (first | exact List.forall_mem_nil _ | trivial | refine List.forall_mem_cons.2 ⟨?_, ?_⟩)) | (intro _; simp [RV.flatP, CD.flatP, List.length_map, e1, hrm, hg, inK, Int.toNat_natCast]; done)) ?_ | refine CallAt.mk _ (g11h ..) (by first | (intro h; cases h; done) | (intro _; repeat' (first | exact List.forall_mem_nil _ | trivial | refine List.forall_mem_cons.2 ⟨?_, ?_⟩)) | (intro _; simp [RV.flatP, CD.flatP, List.length_map, e1, hrm, hg, inK, Int.toNat_natCast]; done)) ?_ | refine CallAtG.mk _ (fun _ => g11h ..) ?_ | refine CallDS.mk _ (by simp [RV.data]) (fun _ => g11h ..) (by first | (intro h; cases h; done) | (intro _; repeat' (first | exact List.forall_mem_nil _ | trivial | refine List.forall_mem_cons.2 ⟨?_, ?_⟩)) | (intro _; simp [RV.flatP, CD.flatP, List.length_map, e1, hrm, hg, inK, Int.toNat_natCast]; done)) ?_ | refine CallAt.mk _ (g31 ..) (by first | (intro h; cases h; done) | (intro _; repeat' (first | exact List.forall_mem_nil _ | trivial | refine List.forall_mem_cons.2 ⟨?_, ?_⟩)) | (intro _; simp [RV.flatP, CD.flatP, List.length_map, e1, hrm, hg, inK, Int.toNat_natCast]; done)) ?_ | refine CallAtG.mk _ (fun _ => g31 ..) ?_ | refine CallDS.mk _ (by simp [RV.data]) (fun _ => g31 ..) (by first | (intro h; cases h; done) | (intro _; repeat' (first | exact List.forall_mem_nil _ | trivial | refine List.forall_mem_cons.2 ⟨?_, ?_⟩)) | (intro _; simp [RV.flatP, CD.flatP, List.length_map, e1, hrm, hg, inK, Int.toNat_natCast]; done)) ?_); try simp (disch := omega) only [go_sem, seval, reduceCtorEq, ↓reduceIte, beq_dec, Int.toNat_natCast, IntKind.signed, IntKind.bits, List.length_map, e1, hrm, hg, inK, Int.toNat_natCast]) | refine And.intro (fun hc => (?_ : AW _ _ _ _)) (fun hc => (?_ : AW _ _ _ _)) | simp (disch := omega) only [go_sem, seval, reduceCtorEq, ↓reduceIte, beq_dec, Int.toNat_natCast, IntKind.signed, IntKind.bits, List.length_map, e1, hrm, hg, inK, Int.toNat_natCast] | (refine And.intro ?_ ?_; focus (first | (intros; omega) | (intros; simp_all; done))) | refine And.intro (?_ : CallAt _ _ _ _ _ _ _ _) ?_ | refine And.intro (?_ : CallAt _ _ _ _ _ _ _ _ ∧ _) ?_ | refine And.intro (?_ : AW _ _ _ _) ?_ | refine And.intro (?_ : _ ∧ _) ?_ | fail))
          all_goals first
            | omega
            | trace_state
      · have hV := flowV_err hE
        rw [hV] at g11
        have hE' : (flowE g a b = 0) = False := eq_false hE
        generalize flowE g a b = E at *
        refine fn_walk code8 (by simp) ?_
        (repeat' (first | refine NextAt.mk (fun hc => ?_) (fun pre n v post hc hkey => ?_) | refine Sni.mk (fun hc => ?_) ?_ | refine Both.mk ?_ ?_ | refine AW_seq ?_ | refine AW_block ?_ | ((first | refine AW_reg ?_ | refine AW_cond ?_ | refine AW_skip ?_ | refine AW_exit ?_ | refine AW_ret ?_ | refine AW_regD (by kernel_rfl) ?_ | refine AW_regX (by kernel_rfl) ?_ | refine CallAtG.t (Eq.refl true) ?_ | refine CallAtG.f (Eq.refl false) ?_ | refine CallAt.mk _ (n9 ..) (by first | (intro h; cases h; done) | (intro _; repeat' (first | exact List.forall_mem_nil _ | trivial | refine List.forall_mem_cons.2 ⟨?_, ?_⟩)) | (intro _; simp [RV.flatP, CD.flatP, List.length_map, e1, hrm, hg, inK, Int.toNat_natCast, hE']; done)) ?_ | refine CallAtG.mk _ (fun _ => n9 ..) ?_ | refine CallDS.mk _ (by simp [RV.data]) (fun _ => n9 ..) (by first | (intro h; cases h; done) | (intro _; repeat' (first | exact List.forall_mem_nil _ | trivial | refine List.forall_mem_cons.2 ⟨?_, ?_⟩)) | (intro _; simp [RV.flatP, CD.flatP, List.length_map, e1, hrm, hg, inK, Int.toNat_natCast, hE']; done)) ?_ | refine CallAt.mk _ (g10 ..) (by first | (intro h; cases h; done) | (intro _; repeat' (first | exact List.forall_mem_nil _ | trivial | refine List.forall_mem_cons.2 ⟨?_, ?_⟩)) | (intro _; simp [RV.flatP, CD.flatP, List.length_map, e1, hrm, hg, inK, Int.toNat_natCast, hE']; done)) ?_ | refine CallAtG.mk _ (fun _ => g10 ..) ?_ | refine CallDS.mk _ (by simp [RV.data]) (fun _ => g10 ..) (by first | (intro h; cases h; done) | (intro _; repeat' (first | exact List.forall_mem_nil _ | trivial | refine List.forall_mem_cons.2 ⟨?_, ?_⟩)) | (intro _; simp [RV.flatP, CD.flatP, List.length_map, e1, hrm, hg, inK, Int.toNat_natCast, hE']; done)) ?_ | refine CallAt.mk _ (g11 ..) (by first | (intro h; cases h; done) | (intro _; repeat' (first | exact List.forall_mem_nil _ | trivial | refine List.forall_mem_cons.2 ⟨?_, ?_⟩)) | (intro _; simp [RV.flatP, CD.flatP, List.length_map, e1, hrm, hg, inK, Int.toNat_natCast, hE']; done)) ?_ | refine CallAtG.mk _ (fun _ => g11 ..) ?_ | refine CallDS.mk _ (by simp [RV.data]) (fun _ => g11 ..) (by first | (intro h; cases h; done) | (intro _; repeat' (first | exact List.forall_mem_nil _ | trivial | refine List.forall_mem_cons.2 ⟨?_, ?_⟩)) | (intro _; simp [RV.flatP, CD.flatP, List.length_map, e1, hrm, hg, inK, Int.toNat_natCast, hE']; done)) ?_ | refine CallAt.mk _ (g31 ..) (by first | (intro h; cases h; done) | (intro _; repeat' (first | exact List.forall_mem_nil _ | trivial | refine List.forall_mem_cons.2 ⟨?_, ?_⟩)) | (intro _; simp [RV.flatP, CD.flatP, List.length_map, e1, hrm, hg, inK, Int.toNat_natCast, hE']; done)) ?_ | refine CallAtG.mk _ (fun _ => g31 ..) ?_ | refine CallDS.mk _ (by simp [RV.data]) (fun _ => g31 ..) (by first | (intro h; cases h; done) | (intro _; repeat' (first | exact List.forall_mem_nil _ | trivial | refine List.forall_mem_cons.2 ⟨?_, ?_⟩)) | (intro _; simp [RV.flatP, CD.flatP, List.length_map, e1, hrm, hg, inK, Int.toNat_natCast, hE']; done)) ?_); try simp (disch := omega) only [go_sem, seval, reduceCtorEq, ↓reduceIte, beq_dec, Int.toNat_natCast, IntKind.signed, IntKind.bits, List.length_map, e1, hrm, hg, inK, Int.toNat_natCast, hE']) | refine And.intro (fun hc => (?_ : AW _ _ _ _)) (fun hc => (?_ : AW _ _ _ _)) | simp (disch := omega) only [go_sem, seval, reduceCtorEq, ↓reduceIte, beq_dec, Int.toNat_natCast, IntKind.signed, IntKind.bits, List.length_map, e1, hrm, hg, inK, Int.toNat_natCast, hE'] | (refine And.intro ?_ ?_; focus (first | (intros; omega) | (intros; simp_all; done))) | refine And.intro (?_ : CallAt _ _ _ _ _ _ _ _) ?_ | refine And.intro (?_ : CallAt _ _ _ _ _ _ _ _ ∧ _) ?_ | refine And.intro (?_ : AW _ _ _ _) ?_ | refine And.intro (?_ : _ ∧ _) ?_ | fail))
        all_goals first
          | omega
          | trace_state
theorem BridgeMore_fn : ∀ xs, TyArgs [(true, grSh), (false, [.int .u8]), (true, [.int .i64, .int .i64, .int .i64, .int .i64])] xs → FnR Try.prog 8 xs [.c (.B true)] := by
  intro xs h
  obtain ⟨d1, _, rfl, h1, h⟩ := h.cons_inv
  obtain ⟨d2, _, rfl, h2, h⟩ := h.cons_inv
  obtain ⟨d3, _, rfl, h3, h⟩ := h.cons_inv
  obtain rfl := h.nil_inv
  obtain ⟨g, rfl⟩ := gr_of h1
  obtain ⟨x, _, rfl, hk, h2⟩ := h2.int_inv
  obtain rfl := h2.nil_inv
  obtain ⟨a, b, rfl⟩ := two_of h3
  exact n8 g x a b (by unfold inK at hk; exact hk)
theorem BridgeMore_holds : Rows.BridgeMoreSaid :=
  OpenClaim.holds_of_wide 8 Try.f8 rfl rfl rfl rfl rfl rfl rfl ⟨rfl, rfl, rfl, rfl, rfl⟩ rfl rfl rfl rfl rfl (by kernel_rfl) Try.func8 (by kernel_rfl)
    (of_decide_eq_true (by kernel_rfl)) (by unfold Func.isWrapper; first | (rw [if_pos (by decide +kernel)]; kernel_rfl) | (rw [if_neg (by decide +kernel)]; exact ⟨rfl, rfl⟩))
    (fun os started H enc _ => law_lifted (s := Rows.bridgeMoreSpec) (C := Try.checked) (n := 12) Try.own Try.laidOut (by kernel_rfl) Try.func8 (by decide +kernel) rfl (by kernel_rfl) rfl (by kernel_rfl) (fun H ds h => by
      match ds, h with
      | [d1, d2, d3], _ => rfl) BridgeMore_fn os started H enc
      (ChangeSpec.witness6 (enc := enc) (C := Try.checked) false ⟨#[], #[.agg #[.slice none 0 0, .slice none 0 0, .slice none 0 0], .int .u8 0, .agg #[.int .i64 0, .int .i64 0, .int .i64 0, .int .i64 0]], []⟩ 12 (by kernel_rfl) (by kernel_rfl) (by kernel_rfl) (by kernel_rfl)))
end Go.Proofs.Ytgldpbghbkoolaa

