/-
  The flow between the first and the last of three dies is at least the smaller one of the others.
-/
import Derived.Test.YtgldpbghbkoolaaWalkF
import Derived.Test.YtgldpbghbkoolaaWalkA
import Derived.KernelRfl
set_option linter.unusedVariables false
set_option linter.unusedSimpArgs false
-- P p_15.txt
open Go Go.AL Go.RowKit
namespace Go.Proofs.Ytgldpbghbkoolaa
set_option maxRecDepth 20000
/- coinage/coinagelaw15.BridgeThird -/
abbrev c3_1 : AC := .reg [⟨(some 2), .box 25 (some 3) (.t 0), none⟩,
  ⟨(some 3), .box 28 (some 6) (.t 1), none⟩,
  ⟨(some 4), .mv (.k (.B false)), none⟩] false
abbrev c3_2 : AC := .reg [⟨(some 11), .call 9 [], none⟩,
  ⟨(some 12), .not (.t 11), none⟩,
  ⟨(some 13), .mv (.t 12), none⟩,
  ⟨(some 14), .ld (some 3) (.t 2), (some (13, false))⟩,
  ⟨(some 15), .call 10 [(.t 14)], (some (13, false))⟩,
  ⟨(some 16), .not (.t 15), (some (13, false))⟩,
  ⟨(some 17), .pick (.t 13) (.k (.B true)) (.t 16), none⟩] false
abbrev c3_3 : AC := .reg [⟨(some 18), .call 9 [], none⟩,
  ⟨(some 4), .mv (.t 18), none⟩] false
abbrev c3_4 : AC := .seq c3_3 .ret
abbrev c3_5 : AC := .cond (.t 17) c3_4 .skip
abbrev c3_6 : AC := .seq c3_2 c3_5
abbrev c3_7 : AC := .reg [⟨(some 20), .ld (some 3) (.t 2), none⟩,
  ⟨(some 21), .iadA 3 2 (.t 3) (.k (.I 0)), none⟩,
  ⟨(some 22), .ld (some 2) (.t 21), none⟩,
  ⟨(some 23), .iadA 3 2 (.t 3) (.k (.I 1)), none⟩,
  ⟨(some 24), .ld (some 2) (.t 23), none⟩,
  ⟨(some 25), .call 11 [(.t 20), (.t 22), (.t 24)], none⟩,
  ⟨(some 19), .mv (.t 25), none⟩,
  ⟨(some 26), .ext (.t 19) 0, none⟩,
  ⟨(some 27), .ext (.t 19) 1, none⟩,
  ⟨(some 5), .mv (.t 26), none⟩,
  ⟨(some 6), .mv (.t 27), none⟩] false
abbrev c3_8 : AC := .reg [⟨(some 29), .ld (some 3) (.t 2), none⟩,
  ⟨(some 30), .iadA 3 2 (.t 3) (.k (.I 1)), none⟩,
  ⟨(some 31), .ld (some 2) (.t 30), none⟩,
  ⟨(some 32), .iadA 3 2 (.t 3) (.k (.I 2)), none⟩,
  ⟨(some 33), .ld (some 2) (.t 32), none⟩,
  ⟨(some 34), .call 11 [(.t 29), (.t 31), (.t 33)], none⟩,
  ⟨(some 28), .mv (.t 34), none⟩,
  ⟨(some 35), .ext (.t 28) 0, none⟩,
  ⟨(some 36), .ext (.t 28) 1, none⟩,
  ⟨(some 7), .mv (.t 35), none⟩,
  ⟨(some 8), .mv (.t 36), none⟩] false
abbrev c3_9 : AC := .reg [⟨(some 38), .ld (some 3) (.t 2), none⟩,
  ⟨(some 39), .iadA 3 2 (.t 3) (.k (.I 0)), none⟩,
  ⟨(some 40), .ld (some 2) (.t 39), none⟩,
  ⟨(some 41), .iadA 3 2 (.t 3) (.k (.I 2)), none⟩,
  ⟨(some 42), .ld (some 2) (.t 41), none⟩,
  ⟨(some 43), .call 11 [(.t 38), (.t 40), (.t 42)], none⟩,
  ⟨(some 37), .mv (.t 43), none⟩,
  ⟨(some 44), .ext (.t 37) 0, none⟩,
  ⟨(some 45), .ext (.t 37) 1, none⟩,
  ⟨(some 9), .mv (.t 44), none⟩,
  ⟨(some 10), .mv (.t 45), none⟩] false
abbrev c3_10 : AC := .reg [⟨(some 46), .mv (.t 6), none⟩,
  ⟨(some 47), .bin .neq (.t 46) (.k (.I 0)), none⟩,
  ⟨(some 48), .mv (.t 47), none⟩,
  ⟨(some 49), .mv (.t 8), (some (48, false))⟩,
  ⟨(some 50), .bin .neq (.t 49) (.k (.I 0)), (some (48, false))⟩,
  ⟨(some 51), .pick (.t 48) (.k (.B true)) (.t 50), none⟩,
  ⟨(some 52), .mv (.t 51), none⟩,
  ⟨(some 53), .mv (.t 10), (some (52, false))⟩,
  ⟨(some 54), .bin .neq (.t 53) (.k (.I 0)), (some (52, false))⟩,
  ⟨(some 55), .pick (.t 52) (.k (.B true)) (.t 54), none⟩] false
abbrev c3_11 : AC := .reg [⟨(some 56), .mv (.t 5), none⟩,
  ⟨(some 57), .bin .eql (.t 56) (.k (.I 0)), none⟩,
  ⟨(some 58), .mv (.t 57), none⟩,
  ⟨(some 59), .mv (.t 6), (some (58, true))⟩,
  ⟨(some 60), .bin .neq (.t 59) (.k (.I 0)), (some (58, true))⟩,
  ⟨(some 61), .pick (.t 58) (.t 60) (.k (.B false)), none⟩,
  ⟨(some 62), .mv (.t 61), none⟩,
  ⟨(some 63), .mv (.t 7), (some (62, false))⟩,
  ⟨(some 64), .bin .eql (.t 63) (.k (.I 0)), (some (62, false))⟩,
  ⟨(some 65), .mv (.t 64), (some (62, false))⟩,
  ⟨(some 66), .mv (.t 8), (some (65, true))⟩,
  ⟨(some 67), .bin .neq (.t 66) (.k (.I 0)), (some (65, true))⟩,
  ⟨(some 68), .pick (.t 65) (.t 67) (.k (.B false)), (some (62, false))⟩,
  ⟨(some 69), .pick (.t 62) (.k (.B true)) (.t 68), none⟩,
  ⟨(some 70), .mv (.t 69), none⟩,
  ⟨(some 71), .mv (.t 9), (some (70, false))⟩,
  ⟨(some 72), .bin .eql (.t 71) (.k (.I 0)), (some (70, false))⟩,
  ⟨(some 73), .mv (.t 72), (some (70, false))⟩,
  ⟨(some 74), .mv (.t 10), (some (73, true))⟩,
  ⟨(some 75), .bin .neq (.t 74) (.k (.I 0)), (some (73, true))⟩,
  ⟨(some 76), .pick (.t 73) (.t 75) (.k (.B false)), (some (70, false))⟩,
  ⟨(some 77), .pick (.t 70) (.k (.B true)) (.t 76), none⟩,
  ⟨(some 4), .mv (.t 77), none⟩] false
abbrev c3_12 : AC := .seq c3_11 .ret
abbrev c3_13 : AC := .cond (.t 55) c3_12 .skip
abbrev c3_14 : AC := .seq c3_10 c3_13
abbrev c3_15 : AC := .reg [⟨(some 78), .mv (.t 9), none⟩,
  ⟨(some 79), .mv (.t 5), none⟩,
  ⟨(some 80), .mv (.t 7), none⟩,
  ⟨(some 81), .minmax false (.t 79) (.t 80), none⟩,
  ⟨(some 82), .bin .geq (.t 78) (.t 81), none⟩,
  ⟨(some 83), .mv (.t 82), none⟩,
  ⟨(some 84), .ld (some 3) (.t 2), (some (83, true))⟩,
  ⟨(some 85), .iadA 3 2 (.t 3) (.k (.I 0)), (some (83, true))⟩,
  ⟨(some 86), .ld (some 2) (.t 85), (some (83, true))⟩,
  ⟨(some 87), .iadA 3 2 (.t 3) (.k (.I 2)), (some (83, true))⟩,
  ⟨(some 88), .ld (some 2) (.t 87), (some (83, true))⟩,
  ⟨(some 89), .call 12 [(.t 84), (.t 86), (.t 88)], (some (83, true))⟩,
  ⟨(some 90), .mv (.t 9), (some (83, true))⟩,
  ⟨(some 91), .bin .geq (.t 90) (.k (.I 2)), (some (83, true))⟩,
  ⟨(some 92), .beq false (.t 89) (.t 91), (some (83, true))⟩,
  ⟨(some 93), .pick (.t 83) (.t 92) (.k (.B false)), none⟩,
  ⟨(some 4), .mv (.t 93), none⟩] false
abbrev c3_16 : AC := .seq c3_15 .ret
abbrev c3_17 : AC := .seq c3_14 c3_16
abbrev c3_18 : AC := .seq c3_9 c3_17
abbrev c3_19 : AC := .seq c3_8 c3_18
abbrev c3_20 : AC := .seq c3_7 c3_19
abbrev c3_21 : AC := .seq c3_6 c3_20
abbrev c3_22 : AC := .seq c3_1 c3_21
abbrev c3 : AC := c3_22
theorem code3 : fnCode Try.prog 3 = some (c3, [4], 94) := by kernel_rfl

abbrev triAv (a b c : Die) : AV := .agg [.I a.side, .I a.num, .I b.side, .I b.num, .I c.side, .I c.num]
theorem die_of {ds : List CD} (h : Ty [.int .i64, .int .i64] ds) : ∃ d : Die, ds = [.I d.side, .I d.num] := by
  obtain ⟨a1, _, rfl, _, h⟩ := h.int_inv
  obtain ⟨a2, _, rfl, _, h⟩ := h.int_inv
  obtain rfl := h.nil_inv
  exact ⟨⟨a1, a2⟩, rfl⟩
theorem tri_of {ds : List CD} (h : Ty [.int .i64, .int .i64, .int .i64, .int .i64, .int .i64, .int .i64] ds) : ∃ a b c : Die, ds = [.I a.side, .I a.num, .I b.side, .I b.num, .I c.side, .I c.num] := by
  obtain ⟨a1, _, rfl, _, h⟩ := h.int_inv
  obtain ⟨a2, _, rfl, _, h⟩ := h.int_inv
  obtain ⟨a3, _, rfl, _, h⟩ := h.int_inv
  obtain ⟨a4, _, rfl, _, h⟩ := h.int_inv
  obtain ⟨a5, _, rfl, _, h⟩ := h.int_inv
  obtain ⟨a6, _, rfl, _, h⟩ := h.int_inv
  obtain rfl := h.nil_inv
  exact ⟨⟨a1, a2⟩, ⟨a3, a4⟩, ⟨a5, a6⟩, rfl⟩
/-! ### the least cut of a valid graph -/
theorem flowE_zero {g : Gr} {a b : Die} : flowE g a b = 0 ↔ validG g = true ∧ a ∈ diesG g ∧ b ∈ diesG g ∧ a ≠ b := by
  unfold flowE
  cases hv : validG g with
  | false => simp
  | true =>
    rw [if_pos rfl, ← okV_iff]
    cases hok : okV g a b <;> simp
theorem flowV_err {g : Gr} {a b : Die} (h : flowE g a b ≠ 0) : flowV g a b = 0 := by unfold flowV; rw [if_neg h]
theorem flow_mc {g : Gr} (gone : List Bool) {a b : Die} (hv : validG g = true) (ha : a ∈ diesG g) (hb : b ∈ diesG g) (hab : a ≠ b) : IsMC (esG g) gone (plN (diesG g) a) (plN (diesG g) b) (flowM g gone a b) :=
  mfl_mc (esG_lt hv) (by have := (plN_mem ha).1; have := dies_len g; unfold nG; omega) (fun e => hab ((plc_ne ha hb).1 e))
theorem third {g : Gr} {a b c : Die} (h1 : flowE g a b = 0) (h2 : flowE g b c = 0) (h3 : flowE g a c = 0) : min (flowV g a b) (flowV g b c) ≤ flowV g a c := by
  obtain ⟨hv, ha, hb, hab⟩ := flowE_zero.1 h1
  obtain ⟨_, _, hc, hbc⟩ := flowE_zero.1 h2
  obtain ⟨_, _, _, hac⟩ := flowE_zero.1 h3
  have m1 := flow_mc (noG g) hv ha hb hab
  have m2 := flow_mc (noG g) hv hb hc hbc
  have m3 := flow_mc (noG g) hv ha hc hac
  unfold flowV
  rw [if_pos h1, if_pos h2, if_pos h3]
  obtain ⟨T, t1, t2, t3⟩ := m3.1
  rw [← t3]
  cases hT : T (plN (diesG g) b) with
  | true => exact Int.le_trans (Int.min_le_right _ _) (m2.2 T hT t2)
  | false => exact Int.le_trans (Int.min_le_left _ _) (m1.2 T t1 hT)
theorem flowV_nonneg (g : Gr) (a b : Die) : 0 ≤ flowV g a b ∧ flowV g a b ≤ g.links.length := by
  by_cases h : flowE g a b = 0
  · obtain ⟨hv, ha, hb, hab⟩ := flowE_zero.1 h
    unfold flowV
    rw [if_pos h]
    obtain ⟨T, t1, t2, t3⟩ := (flow_mc (noG g) hv ha hb hab).1
    rw [← t3, ← esG_len]
    exact cutN_le _ _ _
  · rw [flowV_err h]; omega
set_option maxHeartbeats 4000000 in
theorem n3 (g : Gr) (a b c : Die) : FnR Try.prog 3 [g.av, triAv a b c] [.c (.B true)] := by
  have h1 := n11 g a b
  have h2 := n11 g b c
  have h3 := n11 g a c
  have h4 := n12 g a c
  have z1 := @flowV_err g a b
  have z2 := @flowV_err g b c
  have z3 := @flowV_err g a c
  have t := @third g a b c
  have q1 := flowV_nonneg g a b
  have q2 := flowV_nonneg g b c
  have q3 := flowV_nonneg g a c
  generalize flowV g a b = x at *
  generalize flowV g b c = y at *
  generalize flowV g a c = z at *
  generalize flowE g a b = ex at *
  generalize flowE g b c = ey at *
  generalize flowE g a c = ez at *
  refine fn_walk code3 (by simp) ?_
  (repeat' (first | refine NextAt.mk (fun hc => ?_) (fun pre n v post hc hkey => ?_) | refine Sni.mk (fun hc => ?_) ?_ | refine Both.mk ?_ ?_ | refine AW_seq ?_ | refine AW_block ?_ | ((first | refine AW_reg ?_ | refine AW_cond ?_ | refine AW_skip ?_ | refine AW_exit ?_ | refine AW_ret ?_ | refine AW_regD (by kernel_rfl) ?_ | refine AW_regX (by kernel_rfl) ?_ | refine CallAtG.t (Eq.refl true) ?_ | refine CallAtG.f (Eq.refl false) ?_ | refine CallAt.mk _ (n9 ..) (by first | (intro h; cases h; done) | (intro _; repeat' (first | exact List.forall_mem_nil _ | trivial | refine List.forall_mem_cons.2 ⟨?_, ?_⟩)) | (intro _; simp [RV.flatP, CD.flatP]; done)) ?_ | refine CallAtG.mk _ (fun _ => n9 ..) ?_ | refine CallDS.mk _ (by simp [RV.data]) (fun _ => n9 ..) (by first | (intro h; cases h; done) | (intro _; repeat' (first | exact List.forall_mem_nil _ | trivial | refine List.forall_mem_cons.2 ⟨?_, ?_⟩)) | (intro _; simp [RV.flatP, CD.flatP]; done)) ?_ | refine CallAt.mk _ (n10 ..) (by first | (intro h; cases h; done) | (intro _; repeat' (first | exact List.forall_mem_nil _ | trivial | refine List.forall_mem_cons.2 ⟨?_, ?_⟩)) | (intro _; simp [RV.flatP, CD.flatP]; done)) ?_ | refine CallAtG.mk _ (fun _ => n10 ..) ?_ | refine CallDS.mk _ (by simp [RV.data]) (fun _ => n10 ..) (by first | (intro h; cases h; done) | (intro _; repeat' (first | exact List.forall_mem_nil _ | trivial | refine List.forall_mem_cons.2 ⟨?_, ?_⟩)) | (intro _; simp [RV.flatP, CD.flatP]; done)) ?_ | refine CallAt.mk _ (h1 ..) (by first | (intro h; cases h; done) | (intro _; repeat' (first | exact List.forall_mem_nil _ | trivial | refine List.forall_mem_cons.2 ⟨?_, ?_⟩)) | (intro _; simp [RV.flatP, CD.flatP]; done)) ?_ | refine CallAtG.mk _ (fun _ => h1 ..) ?_ | refine CallDS.mk _ (by simp [RV.data]) (fun _ => h1 ..) (by first | (intro h; cases h; done) | (intro _; repeat' (first | exact List.forall_mem_nil _ | trivial | refine List.forall_mem_cons.2 ⟨?_, ?_⟩)) | (intro _; simp [RV.flatP, CD.flatP]; done)) ?_ | refine CallAt.mk _ (h2 ..) (by first | (intro h; cases h; done) | (intro _; repeat' (first | exact List.forall_mem_nil _ | trivial | refine List.forall_mem_cons.2 ⟨?_, ?_⟩)) | (intro _; simp [RV.flatP, CD.flatP]; done)) ?_ | refine CallAtG.mk _ (fun _ => h2 ..) ?_ | refine CallDS.mk _ (by simp [RV.data]) (fun _ => h2 ..) (by first | (intro h; cases h; done) | (intro _; repeat' (first | exact List.forall_mem_nil _ | trivial | refine List.forall_mem_cons.2 ⟨?_, ?_⟩)) | (intro _; simp [RV.flatP, CD.flatP]; done)) ?_ | refine CallAt.mk _ (h3 ..) (by first | (intro h; cases h; done) | (intro _; repeat' (first | exact List.forall_mem_nil _ | trivial | refine List.forall_mem_cons.2 ⟨?_, ?_⟩)) | (intro _; simp [RV.flatP, CD.flatP]; done)) ?_ | refine CallAtG.mk _ (fun _ => h3 ..) ?_ | refine CallDS.mk _ (by simp [RV.data]) (fun _ => h3 ..) (by first | (intro h; cases h; done) | (intro _; repeat' (first | exact List.forall_mem_nil _ | trivial | refine List.forall_mem_cons.2 ⟨?_, ?_⟩)) | (intro _; simp [RV.flatP, CD.flatP]; done)) ?_ | refine CallAt.mk _ (h4 ..) (by first | (intro h; cases h; done) | (intro _; repeat' (first | exact List.forall_mem_nil _ | trivial | refine List.forall_mem_cons.2 ⟨?_, ?_⟩)) | (intro _; simp [RV.flatP, CD.flatP]; done)) ?_ | refine CallAtG.mk _ (fun _ => h4 ..) ?_ | refine CallDS.mk _ (by simp [RV.data]) (fun _ => h4 ..) (by first | (intro h; cases h; done) | (intro _; repeat' (first | exact List.forall_mem_nil _ | trivial | refine List.forall_mem_cons.2 ⟨?_, ?_⟩)) | (intro _; simp [RV.flatP, CD.flatP]; done)) ?_); try simp (disch := omega) only [go_sem, seval, reduceCtorEq, ↓reduceIte, beq_dec, Int.toNat_natCast, IntKind.signed, IntKind.bits]) | refine And.intro (fun hc => (?_ : AW _ _ _ _)) (fun hc => (?_ : AW _ _ _ _)) | simp (disch := omega) only [go_sem, seval, reduceCtorEq, ↓reduceIte, beq_dec, Int.toNat_natCast, IntKind.signed, IntKind.bits] | (refine And.intro ?_ ?_; focus (first | (intros; omega) | (intros; simp_all; done))) | refine And.intro (?_ : CallAt _ _ _ _ _ _ _ _) ?_ | refine And.intro (?_ : CallAt _ _ _ _ _ _ _ _ ∧ _) ?_ | refine And.intro (?_ : AW _ _ _ _) ?_ | fail))
  · omega
  · simp [hc.2]
end Go.Proofs.Ytgldpbghbkoolaa

-- P p_15.txt
open Go Go.AL Go.RowKit
namespace Go.Proofs.Ytgldpbghbkoolaa
theorem BridgeThird_fn : ∀ xs, TyArgs [(true, grSh), (true, [.int .i64, .int .i64, .int .i64, .int .i64, .int .i64, .int .i64])] xs → FnR Try.prog 3 xs [.c (.B true)] := by
  intro xs h
  obtain ⟨d1, _, rfl, h1, h⟩ := h.cons_inv
  obtain ⟨d2, _, rfl, h2, h⟩ := h.cons_inv
  obtain rfl := h.nil_inv
  obtain ⟨g, rfl⟩ := gr_of h1
  obtain ⟨a, b, c, rfl⟩ := tri_of h2
  exact n3 g a b c
theorem BridgeThird_holds : Rows.BridgeThirdSaid :=
  OpenClaim.holds_of_wide 3 Try.f3 rfl rfl rfl rfl rfl rfl rfl ⟨rfl, rfl, rfl, rfl, rfl⟩ rfl rfl rfl rfl rfl (by kernel_rfl) Try.func3 (by kernel_rfl)
    (of_decide_eq_true (by kernel_rfl)) (by unfold Func.isWrapper; first | (rw [if_pos (by decide +kernel)]; kernel_rfl) | (rw [if_neg (by decide +kernel)]; exact ⟨rfl, rfl⟩))
    (fun os started H enc _ => law_lifted (s := Rows.bridgeThirdSpec) (C := Try.checked) (n := 12) Try.own Try.laidOut (by kernel_rfl) Try.func3 (by decide +kernel) rfl (by kernel_rfl) rfl (by kernel_rfl) (fun H ds h => by
      match ds, h with
      | [d1, d2], _ => rfl) BridgeThird_fn os started H enc
      (ChangeSpec.witness6 (enc := enc) (C := Try.checked) false ⟨#[], #[.agg #[.slice none 0 0, .slice none 0 0, .slice none 0 0], .agg #[.int .i64 0, .int .i64 0, .int .i64 0, .int .i64 0, .int .i64 0, .int .i64 0]], []⟩ 12 (by kernel_rfl) (by kernel_rfl) (by kernel_rfl) (by kernel_rfl)))
end Go.Proofs.Ytgldpbghbkoolaa

