/-
  Lemmas for the proof: no statement of its own.
-/
import Derived.Test.YtgldpbghbkoolaaWalkC
import Derived.Test.YtgldpbghbkoolaaCutB
import Derived.KernelRfl
set_option linter.unusedVariables false
set_option linter.unusedSimpArgs false
-- P p_15.txt
open Go Go.AL Go.RowKit
namespace Go.Proofs.Ytgldpbghbkoolaa
set_option maxRecDepth 20000

/- piece.1 -/
abbrev c5301_1 : AC := .reg [⟨(some 4), .mv (.k (.c .nil)), none⟩] false
abbrev c5301 : AC := c5301_1
/- piece.2 -/
abbrev c5302_1 : AC := .reg [⟨(some 8), .mv (.t 0), none⟩,
  ⟨(some 9), .mv (.t 1), none⟩,
  ⟨(some 10), .call 65 [(.t 8), (.t 9)], none⟩,
  ⟨(some 5), .mv (.t 10), none⟩] false
abbrev c5302 : AC := c5302_1
/- piece.3 -/
abbrev c5303_1 : AC := .reg [⟨(some 11), .mv (.t 5), none⟩,
  ⟨(some 12), .bin .eql (.t 11) (.k (.I (-1))), none⟩] false
abbrev c5303_2 : AC := .reg [⟨(some 13), .mv (.t 0), none⟩,
  ⟨(some 4), .mv (.t 13), none⟩] false
abbrev c5303_3 : AC := .seq c5303_2 .ret
abbrev c5303_4 : AC := .cond (.t 12) c5303_3 .skip
abbrev c5303_5 : AC := .seq c5303_1 c5303_4
abbrev c5303 : AC := c5303_5
/- piece.4 -/
abbrev c5304_1 : AC := .reg [⟨(some 14), .mv (.t 5), none⟩,
  ⟨(some 15), .bin .add (.t 14) (.k (.I 1)), none⟩,
  ⟨(some 6), .mv (.t 15), none⟩] false
abbrev c5304_2 : AC := .reg [⟨(some 16), .mv (.t 6), none⟩,
  ⟨(some 17), .mv (.t 0), none⟩,
  ⟨(some 18), .len (.t 17), none⟩,
  ⟨(some 19), .bin .lss (.t 16) (.t 18), none⟩] false
abbrev c5304_3 : AC := .cond (.t 19) .skip (.exit 0)
abbrev c5304_4 : AC := .seq c5304_2 c5304_3
abbrev c5304_5 : AC := .reg [⟨(some 22), .mv (.t 0), none⟩,
  ⟨(some 23), .mv (.t 6), none⟩,
  ⟨(some 24), .iad 3 (.t 22) (.t 23), none⟩,
  ⟨(some 25), .ld (some 3) (.t 24), none⟩,
  ⟨(some 7), .alloc 44 [(.I 0), (.I 0), (.I 0)], none⟩,
  ⟨none, .st (some 3) (.t 7) (.t 25), none⟩] false
abbrev c5304_6 : AC := .reg [⟨(some 26), .mv (.t 1), none⟩,
  ⟨(some 27), .ld (some 3) (.t 7), none⟩,
  ⟨(some 28), .callv (.t 26) [(.t 27)], none⟩,
  ⟨(some 29), .not (.t 28), none⟩] false
abbrev c5304_7 : AC := .reg [⟨(some 30), .mv (.t 0), none⟩,
  ⟨(some 31), .mv (.t 5), none⟩,
  ⟨(some 32), .ld (some 3) (.t 7), none⟩,
  ⟨(some 33), .iad 3 (.t 30) (.t 31), none⟩,
  ⟨none, .st (some 3) (.t 33) (.t 32), none⟩] false
abbrev c5304_8 : AC := .reg [⟨(some 34), .mv (.t 5), none⟩,
  ⟨(some 35), .bin .add (.t 34) (.k (.I 1)), none⟩,
  ⟨(some 5), .mv (.t 35), none⟩] false
abbrev c5304_9 : AC := .seq c5304_7 c5304_8
abbrev c5304_10 : AC := .cond (.t 29) c5304_9 .skip
abbrev c5304_11 : AC := .seq c5304_6 c5304_10
abbrev c5304_12 : AC := .seq c5304_5 c5304_11
abbrev c5304_13 : AC := .block 1 c5304_12
abbrev c5304_14 : AC := .reg [⟨(some 20), .mv (.t 6), none⟩,
  ⟨(some 21), .bin .add (.t 20) (.k (.I 1)), none⟩,
  ⟨(some 6), .mv (.t 21), none⟩] false
abbrev c5304_15 : AC := .seq c5304_13 c5304_14
abbrev c5304_16 : AC := .seq c5304_4 c5304_15
abbrev c5304_17 : AC := .loop c5304_16
abbrev c5304_18 : AC := .block 0 c5304_17
abbrev c5304_19 : AC := .seq c5304_1 c5304_18
abbrev c5304 : AC := c5304_19
/- piece.6 -/
abbrev c5306_1 : AC := .reg [⟨(some 39), .mv (.t 0), none⟩,
  ⟨(some 40), .mv (.t 5), none⟩,
  ⟨(some 41), .slc 3 (.t 39) none (some (.t 40)), none⟩,
  ⟨(some 4), .mv (.t 41), none⟩] false
abbrev c5306 : AC := c5306_1
/- piece.7 -/
abbrev vB (v : Int) : List (Nat × AO) := [(1000003, .box 3 [.I v])]
theorem q55 (l : Lk) (v : Int) : FnW Try.prog 55 [l.av, .ptr 1000003 0] (vB v) [.c (.B (decide (l.id = v)))] (vB v) [1000003] := by
  refine fn_walkW code55 (by simp) (by rfl) ?_
  (repeat' (first | refine NextAt.mk (fun hc => ?_) (fun pre n v post hc hkey => ?_) | refine Sni.mk (fun hc => ?_) ?_ | refine Both.mk ?_ ?_ | refine AW_seq ?_ | refine AW_block ?_ | ((first | refine AW_reg ?_ | refine AW_cond ?_ | refine AW_skip ?_ | refine AW_exit ?_ | refine AW_ret ?_ | refine AW_regD (by kernel_rfl) ?_ | refine AW_regX (by kernel_rfl) ?_ | refine CallAtG.t (Eq.refl true) ?_ | refine CallAtG.f (Eq.refl false) ?_); try simp (disch := omega) only [go_sem, seval, reduceCtorEq, ↓reduceIte, beq_dec, Int.toNat_natCast, IntKind.signed, IntKind.bits]) | refine And.intro (fun hc => (?_ : AW _ _ _ _)) (fun hc => (?_ : AW _ _ _ _)) | simp (disch := omega) only [go_sem, seval, reduceCtorEq, ↓reduceIte, beq_dec, Int.toNat_natCast, IntKind.signed, IntKind.bits] | (refine And.intro ?_ ?_; focus (first | (intros; omega) | (intros; simp_all; done))) | refine And.intro (?_ : CallAt _ _ _ _ _ _ _ _) ?_ | refine And.intro (?_ : CallAt _ _ _ _ _ _ _ _ ∧ _) ?_ | refine And.intro (?_ : AW _ _ _ _) ?_ | fail))
set_option maxHeartbeats 2000000 in
theorem q65y (ls : List Lk) (v : Int) (i0 : Nat) (hi0 : i0 < ls.length) (hl : ls.length ≤ 1000) (h1 : ∀ j, j < i0 → (nth ls j).id ≠ v) (h2 : (nth ls i0).id = v) : FnW Try.prog 65 [.c (LL ls), .fn 55 [.ptr 1000003 0]] (vB v) [.c (.I i0)] (vB v) [1000003] := by
  refine fn_walkW code65 (by simp) (by rfl) ?_
  (repeat' (first | refine NextAt.mk (fun hc => ?_) (fun pre n v post hc hkey => ?_) | refine Sni.mk (fun hc => ?_) ?_ | refine Both.mk ?_ ?_ | refine AW_seq ?_ | refine AW_block ?_ | ((first | refine AW_reg ?_ | refine AW_cond ?_ | refine AW_skip ?_ | refine AW_exit ?_ | refine AW_ret ?_ | refine AW_regD (by kernel_rfl) ?_ | refine AW_regX (by kernel_rfl) ?_ | refine CallAtG.t (Eq.refl true) ?_ | refine CallAtG.f (Eq.refl false) ?_); try simp (disch := omega) only [go_sem, seval, reduceCtorEq, ↓reduceIte, beq_dec, Int.toNat_natCast, IntKind.signed, IntKind.bits]) | refine And.intro (fun hc => (?_ : AW _ _ _ _)) (fun hc => (?_ : AW _ _ _ _)) | simp (disch := omega) only [go_sem, seval, reduceCtorEq, ↓reduceIte, beq_dec, Int.toNat_natCast, IntKind.signed, IntKind.bits] | (refine And.intro ?_ ?_; focus (first | (intros; omega) | (intros; simp_all; done))) | refine And.intro (?_ : CallAt _ _ _ _ _ _ _ _) ?_ | refine And.intro (?_ : CallAt _ _ _ _ _ _ _ _ ∧ _) ?_ | refine And.intro (?_ : AW _ _ _ _) ?_ | fail))
  refine AW_loopK [0, 1, 7] [4, 5, 8, 9, 10, 11, 12, 13, 14, 15, 16, 17, 18] (fun i : Nat => i ≤ i0) (fun i => [(8, .I i)]) (fun _ => []) (fun i => i0 - i) 0 (by omega) ?_ ?_
  · simp (disch := omega) only [go_sem, seval, reduceCtorEq, ↓reduceIte, beq_dec, Int.toNat_natCast, IntKind.signed, IntKind.bits, Int.natCast_zero]
  · intro i hi
    have g55 := q55 (nth ls i) v
    rcases Nat.lt_or_ge i i0 with hil | hil
    · have hne := h1 i hil
      rw [decide_eq_false hne] at g55
      (repeat' (first | refine NextAt.mk (fun hc => ?_) (fun pre n v post hc hkey => ?_) | refine Sni.mk (fun hc => ?_) ?_ | refine Both.mk ?_ ?_ | refine AW_seq ?_ | refine AW_block ?_ | ((first | refine AW_reg ?_ | refine AW_cond ?_ | refine AW_skip ?_ | refine AW_exit ?_ | refine AW_ret ?_ | refine AW_regD (by kernel_rfl) ?_ | refine AW_regX (by kernel_rfl) ?_ | refine CallAt.mkW (g55 ..) (by rfl) (by simp (disch := omega) only [go_sem, seval, reduceCtorEq, ↓reduceIte, beq_dec, Int.toNat_natCast, IntKind.signed, IntKind.bits, List.length_map, getD_map Lk.cd, Lk.cd]) (by rfl) (by rfl) (by first | (intro h; cases h; done) | (intro _; simp [RV.flatP, CD.flatP, flatOb, AO.flatP, List.length_map, getD_map Lk.cd, Lk.cd]; done)) ?_ | refine CallAtG.t (Eq.refl true) ?_ | refine CallAtG.f (Eq.refl false) ?_); try simp (disch := omega) only [go_sem, seval, reduceCtorEq, ↓reduceIte, beq_dec, Int.toNat_natCast, IntKind.signed, IntKind.bits, List.length_map, getD_map Lk.cd, Lk.cd]) | refine And.intro (fun hc => (?_ : AW _ _ _ _)) (fun hc => (?_ : AW _ _ _ _)) | simp (disch := omega) only [go_sem, seval, reduceCtorEq, ↓reduceIte, beq_dec, Int.toNat_natCast, IntKind.signed, IntKind.bits, List.length_map, getD_map Lk.cd, Lk.cd] | (refine And.intro ?_ ?_; focus (first | (intros; omega) | (intros; simp_all; done))) | refine And.intro (?_ : CallAt _ _ _ _ _ _ _ _) ?_ | refine And.intro (?_ : CallAt _ _ _ _ _ _ _ _ ∧ _) ?_ | refine And.intro (?_ : AW _ _ _ _) ?_ | refine And.intro (?_ : _ ∧ _) ?_ | fail))
      all_goals first
        | (exfalso; omega)
        | omega
        | (refine .mk (i + 1) (by omega) (by omega) ?_
           simp (disch := omega) only [go_sem, seval, reduceCtorEq, ↓reduceIte, beq_dec, Int.toNat_natCast, IntKind.signed, IntKind.bits, Int.natCast_add, Int.natCast_one]
           done)
        | trace_state
    · obtain rfl : i = i0 := by omega
      rw [decide_eq_true h2] at g55
      (repeat' (first | refine NextAt.mk (fun hc => ?_) (fun pre n v post hc hkey => ?_) | refine Sni.mk (fun hc => ?_) ?_ | refine Both.mk ?_ ?_ | refine AW_seq ?_ | refine AW_block ?_ | ((first | refine AW_reg ?_ | refine AW_cond ?_ | refine AW_skip ?_ | refine AW_exit ?_ | refine AW_ret ?_ | refine AW_regD (by kernel_rfl) ?_ | refine AW_regX (by kernel_rfl) ?_ | refine CallAt.mkW (g55 ..) (by rfl) (by simp (disch := omega) only [go_sem, seval, reduceCtorEq, ↓reduceIte, beq_dec, Int.toNat_natCast, IntKind.signed, IntKind.bits, List.length_map, getD_map Lk.cd, Lk.cd]) (by rfl) (by rfl) (by first | (intro h; cases h; done) | (intro _; simp [RV.flatP, CD.flatP, flatOb, AO.flatP, List.length_map, getD_map Lk.cd, Lk.cd]; done)) ?_ | refine CallAtG.t (Eq.refl true) ?_ | refine CallAtG.f (Eq.refl false) ?_); try simp (disch := omega) only [go_sem, seval, reduceCtorEq, ↓reduceIte, beq_dec, Int.toNat_natCast, IntKind.signed, IntKind.bits, List.length_map, getD_map Lk.cd, Lk.cd]) | refine And.intro (fun hc => (?_ : AW _ _ _ _)) (fun hc => (?_ : AW _ _ _ _)) | simp (disch := omega) only [go_sem, seval, reduceCtorEq, ↓reduceIte, beq_dec, Int.toNat_natCast, IntKind.signed, IntKind.bits, List.length_map, getD_map Lk.cd, Lk.cd] | (refine And.intro ?_ ?_; focus (first | (intros; omega) | (intros; simp_all; done))) | refine And.intro (?_ : CallAt _ _ _ _ _ _ _ _) ?_ | refine And.intro (?_ : CallAt _ _ _ _ _ _ _ _ ∧ _) ?_ | refine And.intro (?_ : AW _ _ _ _) ?_ | refine And.intro (?_ : _ ∧ _) ?_ | fail))
      all_goals first
        | (exfalso; omega)
        | omega
        | trace_state
set_option maxHeartbeats 2000000 in
theorem q65n (ls : List Lk) (v : Int) (hl : ls.length ≤ 1000) (h1 : ∀ j, j < ls.length → (nth ls j).id ≠ v) : FnW Try.prog 65 [.c (LL ls), .fn 55 [.ptr 1000003 0]] (vB v) [.c (.I (-1))] (vB v) [1000003] := by
  refine fn_walkW code65 (by simp) (by rfl) ?_
  (repeat' (first | refine NextAt.mk (fun hc => ?_) (fun pre n v post hc hkey => ?_) | refine Sni.mk (fun hc => ?_) ?_ | refine Both.mk ?_ ?_ | refine AW_seq ?_ | refine AW_block ?_ | ((first | refine AW_reg ?_ | refine AW_cond ?_ | refine AW_skip ?_ | refine AW_exit ?_ | refine AW_ret ?_ | refine AW_regD (by kernel_rfl) ?_ | refine AW_regX (by kernel_rfl) ?_ | refine CallAtG.t (Eq.refl true) ?_ | refine CallAtG.f (Eq.refl false) ?_); try simp (disch := omega) only [go_sem, seval, reduceCtorEq, ↓reduceIte, beq_dec, Int.toNat_natCast, IntKind.signed, IntKind.bits]) | refine And.intro (fun hc => (?_ : AW _ _ _ _)) (fun hc => (?_ : AW _ _ _ _)) | simp (disch := omega) only [go_sem, seval, reduceCtorEq, ↓reduceIte, beq_dec, Int.toNat_natCast, IntKind.signed, IntKind.bits] | (refine And.intro ?_ ?_; focus (first | (intros; omega) | (intros; simp_all; done))) | refine And.intro (?_ : CallAt _ _ _ _ _ _ _ _) ?_ | refine And.intro (?_ : CallAt _ _ _ _ _ _ _ _ ∧ _) ?_ | refine And.intro (?_ : AW _ _ _ _) ?_ | fail))
  refine AW_loopK [0, 1, 7] [4, 5, 8, 9, 10, 11, 12, 13, 14, 15, 16, 17, 18] (fun i : Nat => i ≤ ls.length) (fun i => [(8, .I i)]) (fun _ => []) (fun i => ls.length - i) 0 (by omega) ?_ ?_
  · simp (disch := omega) only [go_sem, seval, reduceCtorEq, ↓reduceIte, beq_dec, Int.toNat_natCast, IntKind.signed, IntKind.bits, Int.natCast_zero]
  · intro i hi
    have g55 := q55 (nth ls i) v
    rcases Nat.lt_or_ge i ls.length with hil | hil
    · have hne := h1 i hil
      rw [decide_eq_false hne] at g55
      (repeat' (first | refine NextAt.mk (fun hc => ?_) (fun pre n v post hc hkey => ?_) | refine Sni.mk (fun hc => ?_) ?_ | refine Both.mk ?_ ?_ | refine AW_seq ?_ | refine AW_block ?_ | ((first | refine AW_reg ?_ | refine AW_cond ?_ | refine AW_skip ?_ | refine AW_exit ?_ | refine AW_ret ?_ | refine AW_regD (by kernel_rfl) ?_ | refine AW_regX (by kernel_rfl) ?_ | refine CallAt.mkW (g55 ..) (by rfl) (by simp (disch := omega) only [go_sem, seval, reduceCtorEq, ↓reduceIte, beq_dec, Int.toNat_natCast, IntKind.signed, IntKind.bits, List.length_map, getD_map Lk.cd, Lk.cd]) (by rfl) (by rfl) (by first | (intro h; cases h; done) | (intro _; simp [RV.flatP, CD.flatP, flatOb, AO.flatP, List.length_map, getD_map Lk.cd, Lk.cd]; done)) ?_ | refine CallAtG.t (Eq.refl true) ?_ | refine CallAtG.f (Eq.refl false) ?_); try simp (disch := omega) only [go_sem, seval, reduceCtorEq, ↓reduceIte, beq_dec, Int.toNat_natCast, IntKind.signed, IntKind.bits, List.length_map, getD_map Lk.cd, Lk.cd]) | refine And.intro (fun hc => (?_ : AW _ _ _ _)) (fun hc => (?_ : AW _ _ _ _)) | simp (disch := omega) only [go_sem, seval, reduceCtorEq, ↓reduceIte, beq_dec, Int.toNat_natCast, IntKind.signed, IntKind.bits, List.length_map, getD_map Lk.cd, Lk.cd] | (refine And.intro ?_ ?_; focus (first | (intros; omega) | (intros; simp_all; done))) | refine And.intro (?_ : CallAt _ _ _ _ _ _ _ _) ?_ | refine And.intro (?_ : CallAt _ _ _ _ _ _ _ _ ∧ _) ?_ | refine And.intro (?_ : AW _ _ _ _) ?_ | refine And.intro (?_ : _ ∧ _) ?_ | fail))
      all_goals first
        | (exfalso; omega)
        | omega
        | (refine .mk (i + 1) (by omega) (by omega) ?_
           simp (disch := omega) only [go_sem, seval, reduceCtorEq, ↓reduceIte, beq_dec, Int.toNat_natCast, IntKind.signed, IntKind.bits, Int.natCast_add, Int.natCast_one]
           done)
        | trace_state
    · obtain rfl : i = ls.length := by omega
      (repeat' (first | refine NextAt.mk (fun hc => ?_) (fun pre n v post hc hkey => ?_) | refine Sni.mk (fun hc => ?_) ?_ | refine Both.mk ?_ ?_ | refine AW_seq ?_ | refine AW_block ?_ | ((first | refine AW_reg ?_ | refine AW_cond ?_ | refine AW_skip ?_ | refine AW_exit ?_ | refine AW_ret ?_ | refine AW_regD (by kernel_rfl) ?_ | refine AW_regX (by kernel_rfl) ?_ | refine CallAt.mkW (g55 ..) (by rfl) (by simp (disch := omega) only [go_sem, seval, reduceCtorEq, ↓reduceIte, beq_dec, Int.toNat_natCast, IntKind.signed, IntKind.bits, List.length_map]) (by rfl) (by rfl) (by first | (intro h; cases h; done) | (intro _; simp [RV.flatP, CD.flatP, flatOb, AO.flatP, List.length_map]; done)) ?_ | refine CallAtG.t (Eq.refl true) ?_ | refine CallAtG.f (Eq.refl false) ?_); try simp (disch := omega) only [go_sem, seval, reduceCtorEq, ↓reduceIte, beq_dec, Int.toNat_natCast, IntKind.signed, IntKind.bits, List.length_map]) | refine And.intro (fun hc => (?_ : AW _ _ _ _)) (fun hc => (?_ : AW _ _ _ _)) | simp (disch := omega) only [go_sem, seval, reduceCtorEq, ↓reduceIte, beq_dec, Int.toNat_natCast, IntKind.signed, IntKind.bits, List.length_map] | (refine And.intro ?_ ?_; focus (first | (intros; omega) | (intros; simp_all; done))) | refine And.intro (?_ : CallAt _ _ _ _ _ _ _ _) ?_ | refine And.intro (?_ : CallAt _ _ _ _ _ _ _ _ ∧ _) ?_ | refine And.intro (?_ : AW _ _ _ _) ?_ | refine And.intro (?_ : _ ∧ _) ?_ | fail))
      all_goals first
        | (exfalso; omega)
        | trace_state

/-! ### slices.DeleteFunc, in pieces -/
noncomputable def sqA : Code → Code
  | .seq a _ => a
  | c => c
noncomputable def sqB : Code → Code
  | .seq _ b => b
  | c => c
noncomputable def delB : Code := match Try.f53.body with
  | some c => c
  | none => .skip
noncomputable def delR : Code := sqA (sqB (sqB (sqB (sqB delB))))
noncomputable def delO (i : Nat) : Oper := match delR with
  | .region _ ops _ => match ops.toList[i]? with
    | some o => o
    | none => { dst := none, op := .move (.tmp 0), type := 0, pos := "", after := #[], guard := none }
  | _ => { dst := none, op := .move (.tmp 0), type := 0, pos := "", after := #[], guard := none }
theorem del_body : Try.f53.body = some (.seq (sqA delB) (.seq (sqA (sqB delB)) (.seq (sqA (sqB (sqB delB))) (.seq (sqA (sqB (sqB (sqB delB)))) (.seq delR (.seq (sqA (sqB (sqB (sqB (sqB (sqB delB)))))) .ret)))))) := by kernel_rfl
theorem del_r : delR = .region 11 #[delO 0, delO 1, delO 2, delO 3] false := by kernel_rfl
theorem del_c1 : comp Try.prog (sqA delB) = some c5301 := by kernel_rfl
theorem del_c2 : comp Try.prog (sqA (sqB delB)) = some c5302 := by kernel_rfl
theorem del_c3 : comp Try.prog (sqA (sqB (sqB delB))) = some c5303 := by kernel_rfl
theorem del_c4 : comp Try.prog (sqA (sqB (sqB (sqB delB)))) = some c5304 := by kernel_rfl
theorem del_c6 : comp Try.prog (sqA (sqB (sqB (sqB (sqB (sqB delB)))))) = some c5306 := by kernel_rfl
theorem del_c7 : comp Try.prog .ret = some .ret := by kernel_rfl
/-- the links without those of an id -/
def woL (v : Int) (ls : List Lk) : List Lk := ls.filter fun x => decide (x.id ≠ v)
theorem woL_take (v : Int) (ls : List Lk) (j : Nat) (h : j < ls.length) : woL v (ls.take (j + 1)) = woL v (ls.take j) ++ if (nth ls j).id = v then [] else [nth ls j] := by
  unfold woL
  rw [List.take_succ_eq_append_getElem h, List.filter_append, nth_eq ls j h]
  congr 1
  by_cases e : (ls[j]).id = v <;> simp [e]
theorem woL_le (v : Int) (ls : List Lk) (j : Nat) (h : j ≤ ls.length) : (woL v (ls.take j)).length ≤ j := by
  unfold woL
  exact Nat.le_trans (List.length_filter_le _ _) (by simp; omega)
theorem woL_pre (v : Int) (ls : List Lk) : ∀ j, j ≤ ls.length → (∀ i, i < j → (nth ls i).id ≠ v) → woL v (ls.take j) = ls.take j
  | 0, _, _ => by simp [woL]
  | j + 1, hj, h => by
    rw [woL_take v ls j (by omega), woL_pre v ls j (by omega) fun i hi => h i (by omega), if_neg (h j (by omega)), List.take_succ_eq_append_getElem (by omega), nth_eq ls j (by omega)]
theorem first_id (v : Int) (ls : List Lk) : ∀ n, n ≤ ls.length → (∃ i, i < n ∧ (∀ j, j < i → (nth ls j).id ≠ v) ∧ (nth ls i).id = v) ∨ ∀ j, j < n → (nth ls j).id ≠ v
  | 0, _ => .inr fun j h => by omega
  | n + 1, hn => by
    rcases first_id v ls n (by omega) with ⟨i, h1, h2, h3⟩ | h
    · exact .inl ⟨i, by omega, h2, h3⟩
    · by_cases e : (nth ls n).id = v
      · exact .inl ⟨n, by omega, h, e⟩
      · refine .inr fun j hj => ?_
        rcases Nat.lt_succ_iff_lt_or_eq.1 hj with hj | rfl
        · exact h j hj
        · exact e
structure Wd where
  (j : Nat) (mid : List Lk)
theorem cd_set (l : List Lk) (i : Nat) (x : Lk) : (l.map Lk.cd).set i (Lk.cd x) = (l.set i x).map Lk.cd := by rw [List.map_set]
set_option maxHeartbeats 4000000 in
theorem del_fn (ls : List Lk) (v : Int) (hl : ls.length ≤ 1000) : FnW Try.prog 53 [.own 13, .fn 55 [.ptr 1000003 0]] ((13, .arr 44 3 (ls.map Lk.cd)) :: vB v) [.own 44 3 ((woL v ls).map Lk.cd)] (vB v) [1000003] := by
  refine fn_introC Try.func53 del_body (by kernel_rfl) (ts := [4]) (by kernel_rfl) (by decide) (by rfl) ?_
  rw [show Try.f53.ntmps = 42 from rfl]
  refine CW.seq (CW.of del_c1 ?_)
  (repeat' (first | refine NextAt.mk (fun hc => ?_) (fun pre n v post hc hkey => ?_) | refine Sni.mk (fun hc => ?_) ?_ | refine Both.mk ?_ ?_ | refine AW_seq ?_ | refine AW_block ?_ | ((first | refine AW_reg ?_ | refine AW_cond ?_ | refine AW_skip ?_ | refine AW_exit ?_ | refine AW_ret ?_ | refine AW_regD (by kernel_rfl) ?_ | refine AW_regX (by kernel_rfl) ?_ | refine CallAtG.t (Eq.refl true) ?_ | refine CallAtG.f (Eq.refl false) ?_); try simp (disch := omega) only [go_sem, seval, reduceCtorEq, ↓reduceIte, beq_dec, Int.toNat_natCast, IntKind.signed, IntKind.bits]) | refine And.intro (fun hc => (?_ : AW _ _ _ _)) (fun hc => (?_ : AW _ _ _ _)) | simp (disch := omega) only [go_sem, seval, reduceCtorEq, ↓reduceIte, beq_dec, Int.toNat_natCast, IntKind.signed, IntKind.bits] | (refine And.intro ?_ ?_; focus (first | (intros; omega) | (intros; simp_all; done))) | refine And.intro (?_ : CallAt _ _ _ _ _ _ _ _) ?_ | refine And.intro (?_ : CallAt _ _ _ _ _ _ _ _ ∧ _) ?_ | refine And.intro (?_ : AW _ _ _ _) ?_ | fail))
  refine CW.seq (CW.of del_c2 ?_)
  rcases first_id v ls ls.length (Nat.le_refl _) with ⟨i0, h1, h2, h3⟩ | h
  · have g65 := q65y ls v i0 h1 hl h2 h3
    (repeat' (first | refine NextAt.mk (fun hc => ?_) (fun pre n v post hc hkey => ?_) | refine Sni.mk (fun hc => ?_) ?_ | refine Both.mk ?_ ?_ | refine AW_seq ?_ | refine AW_block ?_ | ((first | refine AW_reg ?_ | refine AW_cond ?_ | refine AW_skip ?_ | refine AW_exit ?_ | refine AW_ret ?_ | refine AW_regD (by kernel_rfl) ?_ | refine AW_regX (by kernel_rfl) ?_ | refine CallAt.mkW (g65 ..) (by rfl) (by simp (disch := omega) only [go_sem, seval, reduceCtorEq, ↓reduceIte, beq_dec, Int.toNat_natCast, IntKind.signed, IntKind.bits]) (by rfl) (by rfl) (by first | (intro h; cases h; done) | (intro _; simp [RV.flatP, CD.flatP, flatOb, AO.flatP]; done)) ?_ | refine CallAtG.t (Eq.refl true) ?_ | refine CallAtG.f (Eq.refl false) ?_); try simp (disch := omega) only [go_sem, seval, reduceCtorEq, ↓reduceIte, beq_dec, Int.toNat_natCast, IntKind.signed, IntKind.bits]) | refine And.intro (fun hc => (?_ : AW _ _ _ _)) (fun hc => (?_ : AW _ _ _ _)) | simp (disch := omega) only [go_sem, seval, reduceCtorEq, ↓reduceIte, beq_dec, Int.toNat_natCast, IntKind.signed, IntKind.bits] | (refine And.intro ?_ ?_; focus (first | (intros; omega) | (intros; simp_all; done))) | refine And.intro (?_ : CallAt _ _ _ _ _ _ _ _) ?_ | refine And.intro (?_ : CallAt _ _ _ _ _ _ _ _ ∧ _) ?_ | refine And.intro (?_ : AW _ _ _ _) ?_ | fail))
    refine CW.seq (CW.of del_c3 ?_)
    (repeat' (first | refine NextAt.mk (fun hc => ?_) (fun pre n v post hc hkey => ?_) | refine Sni.mk (fun hc => ?_) ?_ | refine Both.mk ?_ ?_ | refine AW_seq ?_ | refine AW_block ?_ | ((first | refine AW_reg ?_ | refine AW_cond ?_ | refine AW_skip ?_ | refine AW_exit ?_ | refine AW_ret ?_ | refine AW_regD (by kernel_rfl) ?_ | refine AW_regX (by kernel_rfl) ?_ | refine CallAtG.t (Eq.refl true) ?_ | refine CallAtG.f (Eq.refl false) ?_); try simp (disch := omega) only [go_sem, seval, reduceCtorEq, ↓reduceIte, beq_dec, Int.toNat_natCast, IntKind.signed, IntKind.bits]) | refine And.intro (fun hc => (?_ : AW _ _ _ _)) (fun hc => (?_ : AW _ _ _ _)) | simp (disch := omega) only [go_sem, seval, reduceCtorEq, ↓reduceIte, beq_dec, Int.toNat_natCast, IntKind.signed, IntKind.bits] | (refine And.intro ?_ ?_; focus (first | (intros; omega) | (intros; simp_all; done))) | refine And.intro (?_ : CallAt _ _ _ _ _ _ _ _) ?_ | refine And.intro (?_ : CallAt _ _ _ _ _ _ _ _ ∧ _) ?_ | refine And.intro (?_ : AW _ _ _ _) ?_ | fail))
    refine CW.seq (CW.of del_c4 ?_)
    have e1 : woL v (ls.take (i0 + 1)) = ls.take i0 := by rw [woL_take v ls i0 h1, woL_pre v ls i0 (by omega) h2, if_pos h3, List.append_nil]
    have e2 : ls.take i0 ++ [nth ls i0] ++ ls.drop (i0 + 1) = ls := by
      rw [nth_eq ls i0 h1, ← List.take_succ_eq_append_getElem h1, List.take_append_drop]
    have e3 : (ls.take i0).length = i0 := by simp; omega
    (repeat' (first | refine NextAt.mk (fun hc => ?_) (fun pre n v post hc hkey => ?_) | refine Sni.mk (fun hc => ?_) ?_ | refine Both.mk ?_ ?_ | refine AW_seq ?_ | refine AW_block ?_ | ((first | refine AW_reg ?_ | refine AW_cond ?_ | refine AW_skip ?_ | refine AW_exit ?_ | refine AW_ret ?_ | refine AW_regD (by kernel_rfl) ?_ | refine AW_regX (by kernel_rfl) ?_ | refine CallAtG.t (Eq.refl true) ?_ | refine CallAtG.f (Eq.refl false) ?_); try simp (disch := omega) only [go_sem, seval, reduceCtorEq, ↓reduceIte, beq_dec, Int.toNat_natCast, IntKind.signed, IntKind.bits, inK]) | refine And.intro (fun hc => (?_ : AW _ _ _ _)) (fun hc => (?_ : AW _ _ _ _)) | simp (disch := omega) only [go_sem, seval, reduceCtorEq, ↓reduceIte, beq_dec, Int.toNat_natCast, IntKind.signed, IntKind.bits, inK] | (refine And.intro ?_ ?_; focus (first | (intros; omega) | (intros; simp_all; done))) | refine And.intro (?_ : CallAt _ _ _ _ _ _ _ _) ?_ | refine And.intro (?_ : CallAt _ _ _ _ _ _ _ _ ∧ _) ?_ | refine And.intro (?_ : AW _ _ _ _) ?_ | fail))
    all_goals first | omega | skip
    refine AW_loopK [0, 1] [5, 6, 7, 16, 17, 18, 19, 20, 21, 22, 23, 24, 25, 26, 27, 28, 29, 30, 31, 32, 33, 34, 35] (fun w : Wd => w.j ≤ ls.length ∧ (woL v (ls.take w.j)).length + w.mid.length = w.j ∧ 1 ≤ w.mid.length) (fun w => [(6, .I w.j), (5, .I (woL v (ls.take w.j)).length)]) (fun w => [(13, .arr 44 3 ((woL v (ls.take w.j) ++ w.mid ++ ls.drop w.j).map Lk.cd))]) (fun w => ls.length - w.j) ⟨i0 + 1, [nth ls i0]⟩ ⟨by simp only []; omega, by simp only []; rw [e1, e3]; rfl, by simp⟩ ?_ ?_
    · simp (disch := omega) only [go_sem, seval, reduceCtorEq, ↓reduceIte, beq_dec, Int.toNat_natCast, IntKind.signed, IntKind.bits, e1, e2, e3, Int.natCast_add, Int.natCast_one]
    · rintro ⟨j, mid⟩ ⟨w1, w2, w3⟩
      simp only at w1 w2 w3
      have hwl := woL_le v ls j w1
      rcases Nat.lt_or_ge j ls.length with hjl | hjl
      · have hwt := woL_take v ls j hjl
        have hdr : ls.drop j = nth ls j :: ls.drop (j + 1) := by rw [nth_eq ls j hjl]; exact List.drop_eq_getElem_cons hjl
        have g55 := q55 (nth ls j) v
        have hdl : (ls.drop (j + 1)).length = ls.length - (j + 1) := List.length_drop
        generalize woL v (ls.take j) = W at *
        rw [hdr]
        generalize hD : ls.drop (j + 1) = D at *
        generalize nth ls j = x at *
        have hCl : (W ++ mid ++ x :: D).length = ls.length := by simp; omega
        have hnx : nth (W ++ mid ++ x :: D) j = x := by
          rw [nth_eq _ j (by omega), List.getElem_append_right (by simp; omega)]
          simp [← w2]
        have hge := getD_map Lk.cd (W ++ mid ++ x :: D) j [] (by omega)
        rw [hnx] at hge
        simp only [Lk.cd] at hge
        by_cases hx : x.id = v
        · rw [decide_eq_true hx] at g55
          rw [if_pos hx, List.append_nil] at hwt
          have hnew : W ++ mid ++ x :: D = W ++ (mid ++ [x]) ++ D := by simp
          (repeat' (first | refine NextAt.mk (fun hc => ?_) (fun pre n v post hc hkey => ?_) | refine Sni.mk (fun hc => ?_) ?_ | refine Both.mk ?_ ?_ | refine AW_seq ?_ | refine AW_block ?_ | ((first | refine AW_reg ?_ | refine AW_cond ?_ | refine AW_skip ?_ | refine AW_exit ?_ | refine AW_ret ?_ | refine AW_regD (by kernel_rfl) ?_ | refine AW_regX (by kernel_rfl) ?_ | refine CallAt.mkW (g55 ..) (by rfl) (by simp (disch := omega) only [go_sem, seval, reduceCtorEq, ↓reduceIte, beq_dec, Int.toNat_natCast, IntKind.signed, IntKind.bits, List.length_map, hge, hCl]) (by rfl) (by rfl) (by first | (intro h; cases h; done) | (intro _; simp [RV.flatP, CD.flatP, flatOb, AO.flatP, List.length_map, hge, hCl]; done)) ?_ | refine CallAtG.t (Eq.refl true) ?_ | refine CallAtG.f (Eq.refl false) ?_); try simp (disch := omega) only [go_sem, seval, reduceCtorEq, ↓reduceIte, beq_dec, Int.toNat_natCast, IntKind.signed, IntKind.bits, List.length_map, hge, hCl]) | refine And.intro (fun hc => (?_ : AW _ _ _ _)) (fun hc => (?_ : AW _ _ _ _)) | simp (disch := omega) only [go_sem, seval, reduceCtorEq, ↓reduceIte, beq_dec, Int.toNat_natCast, IntKind.signed, IntKind.bits, List.length_map, hge, hCl] | (refine And.intro ?_ ?_; focus (first | (intros; omega) | (intros; simp_all; done))) | refine And.intro (?_ : CallAt _ _ _ _ _ _ _ _) ?_ | refine And.intro (?_ : CallAt _ _ _ _ _ _ _ _ ∧ _) ?_ | refine And.intro (?_ : AW _ _ _ _) ?_ | refine And.intro (?_ : _ ∧ _) ?_ | fail))
          all_goals first
            | (exfalso; omega)
            | omega
            | (refine .mk ⟨j + 1, mid ++ [x]⟩ ⟨by simp only []; omega, by simp only [hwt, List.length_append, List.length_cons, List.length_nil]; omega, by simp⟩ (by simp only []; omega) ?_
               simp only [hwt, hD]
               rw [hnew]
               simp (disch := omega) only [go_sem, seval, reduceCtorEq, ↓reduceIte, beq_dec, Int.toNat_natCast, IntKind.signed, IntKind.bits, Int.natCast_add, Int.natCast_one]
               done)
            | trace_state
        · rw [decide_eq_false hx] at g55
          rw [if_neg hx] at hwt
          obtain ⟨m, mt, rfl⟩ : ∃ m mt, mid = m :: mt := by
            cases mid with
            | nil => simp at w3
            | cons m mt => exact ⟨m, mt, rfl⟩
          have hset : ((W ++ m :: mt ++ x :: D).map Lk.cd).set W.length [CD.I x.id, CD.I x.obv, CD.I x.rev] = ((W ++ [x]) ++ (mt ++ [x]) ++ D).map Lk.cd := by
            rw [show [CD.I x.id, CD.I x.obv, CD.I x.rev] = Lk.cd x from rfl, cd_set]
            congr 1
            simp
          simp only [List.length_cons] at w2
          (repeat' (first | refine NextAt.mk (fun hc => ?_) (fun pre n v post hc hkey => ?_) | refine Sni.mk (fun hc => ?_) ?_ | refine Both.mk ?_ ?_ | refine AW_seq ?_ | refine AW_block ?_ | ((first | refine AW_reg ?_ | refine AW_cond ?_ | refine AW_skip ?_ | refine AW_exit ?_ | refine AW_ret ?_ | refine AW_regD (by kernel_rfl) ?_ | refine AW_regX (by kernel_rfl) ?_ | refine CallAt.mkW (g55 ..) (by rfl) (by simp (disch := omega) only [go_sem, seval, reduceCtorEq, ↓reduceIte, beq_dec, Int.toNat_natCast, IntKind.signed, IntKind.bits, List.length_map, hge, hCl, hset, Int.toNat_natCast, inK]) (by rfl) (by rfl) (by first | (intro h; cases h; done) | (intro _; simp [RV.flatP, CD.flatP, flatOb, AO.flatP, List.length_map, hge, hCl, hset, Int.toNat_natCast, inK]; done)) ?_ | refine CallAtG.t (Eq.refl true) ?_ | refine CallAtG.f (Eq.refl false) ?_); try simp (disch := omega) only [go_sem, seval, reduceCtorEq, ↓reduceIte, beq_dec, Int.toNat_natCast, IntKind.signed, IntKind.bits, List.length_map, hge, hCl, hset, Int.toNat_natCast, inK]) | refine And.intro (fun hc => (?_ : AW _ _ _ _)) (fun hc => (?_ : AW _ _ _ _)) | simp (disch := omega) only [go_sem, seval, reduceCtorEq, ↓reduceIte, beq_dec, Int.toNat_natCast, IntKind.signed, IntKind.bits, List.length_map, hge, hCl, hset, Int.toNat_natCast, inK] | (refine And.intro ?_ ?_; focus (first | (intros; omega) | (intros; simp_all; done))) | refine And.intro (?_ : CallAt _ _ _ _ _ _ _ _) ?_ | refine And.intro (?_ : CallAt _ _ _ _ _ _ _ _ ∧ _) ?_ | refine And.intro (?_ : AW _ _ _ _) ?_ | refine And.intro (?_ : _ ∧ _) ?_ | fail))
          all_goals first
            | (exfalso; omega)
            | omega
            | (refine .mk ⟨j + 1, mt ++ [x]⟩ ⟨by simp only []; omega, by simp only [hwt, List.length_append, List.length_cons, List.length_nil]; omega, by simp⟩ (by simp only []; omega) ?_
               simp only [hwt, hD, List.length_append, List.length_cons, List.length_nil]
               simp (disch := omega) only [go_sem, seval, reduceCtorEq, ↓reduceIte, beq_dec, Int.toNat_natCast, IntKind.signed, IntKind.bits, Int.natCast_add, Int.natCast_one, List.length_append, List.length_cons, List.length_nil])
            | trace_state
      · obtain rfl : j = ls.length := by omega
        have hwe : woL v (ls.take ls.length) = woL v ls := by rw [List.take_length]
        have hde : ls.drop ls.length = [] := List.drop_length
        rw [hwe] at w2 hwl ⊢
        rw [hde, List.append_nil]
        have hC : (woL v ls ++ mid).length = ls.length := by simp; omega
        (repeat' (first | refine NextAt.mk (fun hc => ?_) (fun pre n v post hc hkey => ?_) | refine Sni.mk (fun hc => ?_) ?_ | refine Both.mk ?_ ?_ | refine AW_seq ?_ | refine AW_block ?_ | ((first | refine AW_reg ?_ | refine AW_cond ?_ | refine AW_skip ?_ | refine AW_exit ?_ | refine AW_ret ?_ | refine AW_regD (by kernel_rfl) ?_ | refine AW_regX (by kernel_rfl) ?_ | refine CallAtG.t (Eq.refl true) ?_ | refine CallAtG.f (Eq.refl false) ?_); try simp (disch := omega) only [go_sem, seval, reduceCtorEq, ↓reduceIte, beq_dec, Int.toNat_natCast, IntKind.signed, IntKind.bits, List.length_map, hC]) | refine And.intro (fun hc => (?_ : AW _ _ _ _)) (fun hc => (?_ : AW _ _ _ _)) | simp (disch := omega) only [go_sem, seval, reduceCtorEq, ↓reduceIte, beq_dec, Int.toNat_natCast, IntKind.signed, IntKind.bits, List.length_map, hC] | (refine And.intro ?_ ?_; focus (first | (intros; omega) | (intros; simp_all; done))) | refine And.intro (?_ : CallAt _ _ _ _ _ _ _ _) ?_ | refine And.intro (?_ : CallAt _ _ _ _ _ _ _ _ ∧ _) ?_ | refine And.intro (?_ : AW _ _ _ _) ?_ | fail))
        · exfalso; omega
        refine CW.seq ?_
        rw [del_r]
        refine CW_clr' (s := 0) (i := 5) (d1 := 36) (d2 := 37) (d3 := 38) (t := 23) (e := 44) (k := 3) (id := 13) (l := (woL v ls).length) ⟨by kernel_rfl, by kernel_rfl, by kernel_rfl⟩ ⟨by kernel_rfl, by kernel_rfl, by kernel_rfl⟩ ⟨by kernel_rfl, by kernel_rfl, by kernel_rfl⟩ ⟨by kernel_rfl, by kernel_rfl, by kernel_rfl⟩ (by kernel_rfl) (zc := [.I 0, .I 0, .I 0]) (by kernel_rfl) (by kernel_rfl) (by omega) rfl (by rfl) (by rfl) (by rfl) (by simp) (by show 36 < 42; omega) (by show 37 < 42; omega) (by show 38 < 42; omega) (by decide) (by decide) ?_
        have hT : ∀ R, List.take (woL v ls).length (((woL v ls ++ mid).map Lk.cd).take (woL v ls).length ++ R) = (woL v ls).map Lk.cd := fun R => by
          rw [List.map_append, List.take_left' (by simp), List.take_left' (by simp)]
        (repeat' (first | refine NextAt.mk (fun hc => ?_) (fun pre n v post hc hkey => ?_) | refine Sni.mk (fun hc => ?_) ?_ | refine Both.mk ?_ ?_ | refine AW_seq ?_ | refine AW_block ?_ | ((first | refine AW_reg ?_ | refine AW_cond ?_ | refine AW_skip ?_ | refine AW_exit ?_ | refine AW_ret ?_ | refine AW_regD (by kernel_rfl) ?_ | refine AW_regX (by kernel_rfl) ?_ | refine CallAtG.t (Eq.refl true) ?_ | refine CallAtG.f (Eq.refl false) ?_); try simp (disch := omega) only [go_sem, seval, reduceCtorEq, ↓reduceIte, beq_dec, Int.toNat_natCast, IntKind.signed, IntKind.bits]) | refine And.intro (fun hc => (?_ : AW _ _ _ _)) (fun hc => (?_ : AW _ _ _ _)) | simp (disch := omega) only [go_sem, seval, reduceCtorEq, ↓reduceIte, beq_dec, Int.toNat_natCast, IntKind.signed, IntKind.bits] | (refine And.intro ?_ ?_; focus (first | (intros; omega) | (intros; simp_all; done))) | refine And.intro (?_ : CallAt _ _ _ _ _ _ _ _) ?_ | refine And.intro (?_ : CallAt _ _ _ _ _ _ _ _ ∧ _) ?_ | refine And.intro (?_ : AW _ _ _ _) ?_ | fail))
        refine CW.seq (CW.of del_c6 ?_)
        (repeat' (first | refine NextAt.mk (fun hc => ?_) (fun pre n v post hc hkey => ?_) | refine Sni.mk (fun hc => ?_) ?_ | refine Both.mk ?_ ?_ | refine AW_seq ?_ | refine AW_block ?_ | ((first | refine AW_reg ?_ | refine AW_cond ?_ | refine AW_skip ?_ | refine AW_exit ?_ | refine AW_ret ?_ | refine AW_regD (by kernel_rfl) ?_ | refine AW_regX (by kernel_rfl) ?_ | refine CallAtG.t (Eq.refl true) ?_ | refine CallAtG.f (Eq.refl false) ?_); try simp (disch := omega) only [go_sem, seval, reduceCtorEq, ↓reduceIte, beq_dec, Int.toNat_natCast, IntKind.signed, IntKind.bits, hT, Int.toNat_natCast]) | refine And.intro (fun hc => (?_ : AW _ _ _ _)) (fun hc => (?_ : AW _ _ _ _)) | simp (disch := omega) only [go_sem, seval, reduceCtorEq, ↓reduceIte, beq_dec, Int.toNat_natCast, IntKind.signed, IntKind.bits, hT, Int.toNat_natCast] | (refine And.intro ?_ ?_; focus (first | (intros; omega) | (intros; simp_all; done))) | refine And.intro (?_ : CallAt _ _ _ _ _ _ _ _) ?_ | refine And.intro (?_ : CallAt _ _ _ _ _ _ _ _ ∧ _) ?_ | refine And.intro (?_ : AW _ _ _ _) ?_ | fail))
        all_goals first
          | (refine CW.of del_c7 ?_
             (repeat' (first | refine NextAt.mk (fun hc => ?_) (fun pre n v post hc hkey => ?_) | refine Sni.mk (fun hc => ?_) ?_ | refine Both.mk ?_ ?_ | refine AW_seq ?_ | refine AW_block ?_ | ((first | refine AW_reg ?_ | refine AW_cond ?_ | refine AW_skip ?_ | refine AW_exit ?_ | refine AW_ret ?_ | refine AW_regD (by kernel_rfl) ?_ | refine AW_regX (by kernel_rfl) ?_ | refine CallAtG.t (Eq.refl true) ?_ | refine CallAtG.f (Eq.refl false) ?_); try simp (disch := omega) only [go_sem, seval, reduceCtorEq, ↓reduceIte, beq_dec, Int.toNat_natCast, IntKind.signed, IntKind.bits]) | refine And.intro (fun hc => (?_ : AW _ _ _ _)) (fun hc => (?_ : AW _ _ _ _)) | simp (disch := omega) only [go_sem, seval, reduceCtorEq, ↓reduceIte, beq_dec, Int.toNat_natCast, IntKind.signed, IntKind.bits] | (refine And.intro ?_ ?_; focus (first | (intros; omega) | (intros; simp_all; done))) | refine And.intro (?_ : CallAt _ _ _ _ _ _ _ _) ?_ | refine And.intro (?_ : CallAt _ _ _ _ _ _ _ _ ∧ _) ?_ | refine And.intro (?_ : AW _ _ _ _) ?_ | fail))
             done)
          | trace_state
  · have g65 := q65n ls v hl h
    have hwo := woL_pre v ls ls.length (Nat.le_refl _) h
    rw [List.take_length] at hwo
    (repeat' (first | refine NextAt.mk (fun hc => ?_) (fun pre n v post hc hkey => ?_) | refine Sni.mk (fun hc => ?_) ?_ | refine Both.mk ?_ ?_ | refine AW_seq ?_ | refine AW_block ?_ | ((first | refine AW_reg ?_ | refine AW_cond ?_ | refine AW_skip ?_ | refine AW_exit ?_ | refine AW_ret ?_ | refine AW_regD (by kernel_rfl) ?_ | refine AW_regX (by kernel_rfl) ?_ | refine CallAt.mkW (g65 ..) (by rfl) (by simp (disch := omega) only [go_sem, seval, reduceCtorEq, ↓reduceIte, beq_dec, Int.toNat_natCast, IntKind.signed, IntKind.bits]) (by rfl) (by rfl) (by first | (intro h; cases h; done) | (intro _; simp [RV.flatP, CD.flatP, flatOb, AO.flatP]; done)) ?_ | refine CallAtG.t (Eq.refl true) ?_ | refine CallAtG.f (Eq.refl false) ?_); try simp (disch := omega) only [go_sem, seval, reduceCtorEq, ↓reduceIte, beq_dec, Int.toNat_natCast, IntKind.signed, IntKind.bits]) | refine And.intro (fun hc => (?_ : AW _ _ _ _)) (fun hc => (?_ : AW _ _ _ _)) | simp (disch := omega) only [go_sem, seval, reduceCtorEq, ↓reduceIte, beq_dec, Int.toNat_natCast, IntKind.signed, IntKind.bits] | (refine And.intro ?_ ?_; focus (first | (intros; omega) | (intros; simp_all; done))) | refine And.intro (?_ : CallAt _ _ _ _ _ _ _ _) ?_ | refine And.intro (?_ : CallAt _ _ _ _ _ _ _ _ ∧ _) ?_ | refine And.intro (?_ : AW _ _ _ _) ?_ | fail))
    refine CW.seq (CW.of del_c3 ?_)
    (repeat' (first | refine NextAt.mk (fun hc => ?_) (fun pre n v post hc hkey => ?_) | refine Sni.mk (fun hc => ?_) ?_ | refine Both.mk ?_ ?_ | refine AW_seq ?_ | refine AW_block ?_ | ((first | refine AW_reg ?_ | refine AW_cond ?_ | refine AW_skip ?_ | refine AW_exit ?_ | refine AW_ret ?_ | refine AW_regD (by kernel_rfl) ?_ | refine AW_regX (by kernel_rfl) ?_ | refine CallAtG.t (Eq.refl true) ?_ | refine CallAtG.f (Eq.refl false) ?_); try simp (disch := omega) only [go_sem, seval, reduceCtorEq, ↓reduceIte, beq_dec, Int.toNat_natCast, IntKind.signed, IntKind.bits, hwo]) | refine And.intro (fun hc => (?_ : AW _ _ _ _)) (fun hc => (?_ : AW _ _ _ _)) | simp (disch := omega) only [go_sem, seval, reduceCtorEq, ↓reduceIte, beq_dec, Int.toNat_natCast, IntKind.signed, IntKind.bits, hwo] | (refine And.intro ?_ ?_; focus (first | (intros; omega) | (intros; simp_all; done))) | refine And.intro (?_ : CallAt _ _ _ _ _ _ _ _) ?_ | refine And.intro (?_ : CallAt _ _ _ _ _ _ _ _ ∧ _) ?_ | refine And.intro (?_ : AW _ _ _ _) ?_ | fail))

end Go.Proofs.Ytgldpbghbkoolaa

-- P p_15.txt
open Go Go.AL Go.RowKit
namespace Go.Proofs.Ytgldpbghbkoolaa
set_option maxRecDepth 20000
theorem q54 (ls : List Lk) (hl : ls.length ≤ 1000) : FnR Try.prog 54 [.c (LL ls)] [.own 44 3 (ls.map Lk.cd)] := by
  refine fn_walk code54 (by simp) ?_
  (repeat' (first | refine NextAt.mk (fun hc => ?_) (fun pre n v post hc hkey => ?_) | refine Sni.mk (fun hc => ?_) ?_ | refine Both.mk ?_ ?_ | refine AW_seq ?_ | refine AW_block ?_ | ((first | refine AW_reg ?_ | refine AW_cond ?_ | refine AW_skip ?_ | refine AW_exit ?_ | refine AW_ret ?_ | refine AW_regD (by kernel_rfl) ?_ | refine AW_regX (by kernel_rfl) ?_ | refine CallAtG.t (Eq.refl true) ?_ | refine CallAtG.f (Eq.refl false) ?_); try simp (disch := omega) only [go_sem, seval, reduceCtorEq, ↓reduceIte, beq_dec, Int.toNat_natCast, IntKind.signed, IntKind.bits, maxLen, List.length_map]) | refine And.intro (fun hc => (?_ : AW _ _ _ _)) (fun hc => (?_ : AW _ _ _ _)) | simp (disch := omega) only [go_sem, seval, reduceCtorEq, ↓reduceIte, beq_dec, Int.toNat_natCast, IntKind.signed, IntKind.bits, maxLen, List.length_map] | (refine And.intro ?_ ?_; focus (first | (intros; omega) | (intros; simp_all; done))) | refine And.intro (?_ : CallAt _ _ _ _ _ _ _ _) ?_ | refine And.intro (?_ : CallAt _ _ _ _ _ _ _ _ ∧ _) ?_ | refine And.intro (?_ : AW _ _ _ _) ?_ | fail))
  all_goals exact hc
theorem hold33 {Q : Exit → St → Prop} {σ : St} (h : Hold (AW Try.prog c31_13 Q σ)) : AW Try.prog c31_13 Q σ := h.out
/-- the swap of 3 and 1000003 -/
def rd3 (i : Nat) : Nat := if i = 3 then 1000003 else if i = 1000003 then 3 else i
theorem rd3_rd3 (i : Nat) : rd3 (rd3 i) = i := by
  unfold rd3
  repeat' split
  all_goals omega
/-- the graph without a link -/
def woG (g : Gr) (v : Int) : Gr := ⟨cs ((woL v g.links).map Lk.obv), cs ((woL v g.links).map Lk.rev), woL v g.links⟩
theorem woL_len (v : Int) (ls : List Lk) : (woL v ls).length ≤ ls.length := List.length_filter_le _ _
theorem q33e (g : Gr) (v : Int) (hv : validG g = false) : FnR Try.prog 31 [g.av, .I v] [.agg [.nil, .nil, .nil], .c (.I 1)] := by
  have g32 := f32 g
  rw [hv] at g32
  refine fn_walk code31 (by simp) ?_
  (repeat' (first | refine NextAt.mk (fun hc => ?_) (fun pre n v post hc hkey => ?_) | refine Sni.mk (fun hc => ?_) ?_ | refine Both.mk ?_ ?_ | refine AW_seq ?_ | refine AW_block ?_ | ((first | refine AW_reg ?_ | refine AW_cond ?_ | refine AW_skip ?_ | refine AW_exit ?_ | refine AW_ret ?_ | refine AW_regD (by kernel_rfl) ?_ | refine AW_regX (by kernel_rfl) ?_ | refine CallAtG.t (Eq.refl true) ?_ | refine CallAtG.f (Eq.refl false) ?_ | refine CallAt.mk _ (g32 ..) (by first | (intro h; cases h; done) | (intro _; repeat' (first | exact List.forall_mem_nil _ | trivial | refine List.forall_mem_cons.2 ⟨?_, ?_⟩)) | (intro _; simp [RV.flatP, CD.flatP]; done)) ?_ | refine CallAtG.mk _ (fun _ => g32 ..) ?_ | refine CallDS.mk _ (by simp [RV.data]) (fun _ => g32 ..) (by first | (intro h; cases h; done) | (intro _; repeat' (first | exact List.forall_mem_nil _ | trivial | refine List.forall_mem_cons.2 ⟨?_, ?_⟩)) | (intro _; simp [RV.flatP, CD.flatP]; done)) ?_); try simp (disch := omega) only [go_sem, seval, reduceCtorEq, ↓reduceIte, beq_dec, Int.toNat_natCast, IntKind.signed, IntKind.bits]) | refine And.intro (fun hc => (?_ : AW _ _ _ _)) (fun hc => (?_ : AW _ _ _ _)) | simp (disch := omega) only [go_sem, seval, reduceCtorEq, ↓reduceIte, beq_dec, Int.toNat_natCast, IntKind.signed, IntKind.bits] | (refine And.intro ?_ ?_; focus (first | (intros; omega) | (intros; simp_all; done))) | refine And.intro (?_ : CallAt _ _ _ _ _ _ _ _) ?_ | refine And.intro (?_ : CallAt _ _ _ _ _ _ _ _ ∧ _) ?_ | refine And.intro (?_ : AW _ _ _ _) ?_ | fail))
set_option maxHeartbeats 2000000 in
theorem q33 (g : Gr) (v : Int) (hv : validG g = true) (hn : (woL v g.links).length ≠ g.links.length) : FnR Try.prog 31 [g.av, .I v] [.agg [Row (woG g v).obv, Row (woG g v).rev, LL (woG g v).links], .c (.I 0)] := by
  have g32 := f32 g
  rw [hv] at g32
  have hsm := valid_small hv
  have hle := woL_len v g.links
  have g54 := q54 g.links (by omega)
  have g53 := FnW.ren rd3_rd3 (del_fn g.links v (by omega))
  have r3 : rd3 1000003 = 3 := rfl
  have r13 : rd3 13 = 13 := rfl
  simp only [renL, AV.ren, renOb, AO.ren, List.map_cons, List.map_nil, r3, r13] at g53
  have g52 := f52 (woL v g.links) (by omega)
  have hn' : (((woL v g.links).length : Int) = (g.links.length : Int)) = False := eq_false (by omega)
  refine fn_walk code31 (by simp) ?_
  (repeat' (first | (with_reducible refine hold33 ?_; try simp (disch := omega) only [go_sem, seval, reduceCtorEq, ↓reduceIte, beq_dec, Int.toNat_natCast, IntKind.signed, IntKind.bits, List.length_map, hn']) | refine NextAt.mk (fun hc => ?_) (fun pre n v post hc hkey => ?_) | refine Sni.mk (fun hc => ?_) ?_ | refine Both.mk ?_ ?_ | refine AW_seq ?_ | refine AW_block ?_ | ((first | refine AW_reg ?_ | refine AW_cond ?_ | refine AW_skip ?_ | refine AW_exit ?_ | refine AW_ret ?_ | refine AW_regD (by kernel_rfl) ?_ | refine AW_regX (by kernel_rfl) ?_ | refine CallAt.mkW (g53 ..) (by rfl) (by simp (disch := omega) only [go_sem, seval, reduceCtorEq, ↓reduceIte, beq_dec, Int.toNat_natCast, IntKind.signed, IntKind.bits, List.length_map, hn']) (by rfl) (by rfl) (by first | (intro h; cases h; done) | (intro _; simp [RV.flatP, CD.flatP, flatOb, AO.flatP, List.length_map, hn']; done)) ?_ | refine CallAtG.t (Eq.refl true) ?_ | refine CallAtG.f (Eq.refl false) ?_ | refine CallAt.mk _ (g32 ..) (by first | (intro h; cases h; done) | (intro _; repeat' (first | exact List.forall_mem_nil _ | trivial | refine List.forall_mem_cons.2 ⟨?_, ?_⟩)) | (intro _; simp [RV.flatP, CD.flatP, List.length_map, hn']; done)) ?_ | refine CallAtG.mk _ (fun _ => g32 ..) ?_ | refine CallDS.mk _ (by simp [RV.data]) (fun _ => g32 ..) (by first | (intro h; cases h; done) | (intro _; repeat' (first | exact List.forall_mem_nil _ | trivial | refine List.forall_mem_cons.2 ⟨?_, ?_⟩)) | (intro _; simp [RV.flatP, CD.flatP, List.length_map, hn']; done)) ?_ | refine CallAt.mk _ (g54 ..) (by first | (intro h; cases h; done) | (intro _; repeat' (first | exact List.forall_mem_nil _ | trivial | refine List.forall_mem_cons.2 ⟨?_, ?_⟩)) | (intro _; simp [RV.flatP, CD.flatP, List.length_map, hn']; done)) ?_ | refine CallAtG.mk _ (fun _ => g54 ..) ?_ | refine CallDS.mk _ (by simp [RV.data]) (fun _ => g54 ..) (by first | (intro h; cases h; done) | (intro _; repeat' (first | exact List.forall_mem_nil _ | trivial | refine List.forall_mem_cons.2 ⟨?_, ?_⟩)) | (intro _; simp [RV.flatP, CD.flatP, List.length_map, hn']; done)) ?_); try simp (disch := omega) only [go_sem, seval, reduceCtorEq, ↓reduceIte, beq_dec, Int.toNat_natCast, IntKind.signed, IntKind.bits, List.length_map, hn']) | refine And.intro (fun hc => (?_ : AW _ _ _ _)) (fun hc => (?_ : AW _ _ _ _)) | simp (disch := omega) only [go_sem, seval, reduceCtorEq, ↓reduceIte, beq_dec, Int.toNat_natCast, IntKind.signed, IntKind.bits, List.length_map, hn'] | (refine And.intro ?_ ?_; focus (first | (intros; omega) | (intros; simp_all; done))) | refine And.intro (?_ : CallAt _ _ _ _ _ _ _ _) ?_ | refine And.intro (?_ : CallAt _ _ _ _ _ _ _ _ ∧ _) ?_ | refine And.intro (?_ : AW _ _ _ _) ?_ | fail))
  refine ⟨AW_frz [15] ?_⟩
  (repeat' (first | refine NextAt.mk (fun hc => ?_) (fun pre n v post hc hkey => ?_) | refine Sni.mk (fun hc => ?_) ?_ | refine Both.mk ?_ ?_ | refine AW_seq ?_ | refine AW_block ?_ | ((first | refine AW_reg ?_ | refine AW_cond ?_ | refine AW_skip ?_ | refine AW_exit ?_ | refine AW_ret ?_ | refine AW_regD (by kernel_rfl) ?_ | refine AW_regX (by kernel_rfl) ?_ | refine CallAtG.t (Eq.refl true) ?_ | refine CallAtG.f (Eq.refl false) ?_ | refine CallAt.mk _ (g52 ..) (by first | (intro h; cases h; done) | (intro _; repeat' (first | exact List.forall_mem_nil _ | trivial | refine List.forall_mem_cons.2 ⟨?_, ?_⟩)) | (intro _; simp [RV.flatP, CD.flatP]; done)) ?_ | refine CallAtG.mk _ (fun _ => g52 ..) ?_ | refine CallDS.mk _ (by simp [RV.data]) (fun _ => g52 ..) (by first | (intro h; cases h; done) | (intro _; repeat' (first | exact List.forall_mem_nil _ | trivial | refine List.forall_mem_cons.2 ⟨?_, ?_⟩)) | (intro _; simp [RV.flatP, CD.flatP]; done)) ?_); try simp (disch := omega) only [go_sem, seval, reduceCtorEq, ↓reduceIte, beq_dec, Int.toNat_natCast, IntKind.signed, IntKind.bits]) | refine And.intro (fun hc => (?_ : AW _ _ _ _)) (fun hc => (?_ : AW _ _ _ _)) | simp (disch := omega) only [go_sem, seval, reduceCtorEq, ↓reduceIte, beq_dec, Int.toNat_natCast, IntKind.signed, IntKind.bits] | (refine And.intro ?_ ?_; focus (first | (intros; omega) | (intros; simp_all; done))) | refine And.intro (?_ : CallAt _ _ _ _ _ _ _ _) ?_ | refine And.intro (?_ : CallAt _ _ _ _ _ _ _ _ ∧ _) ?_ | refine And.intro (?_ : AW _ _ _ _) ?_ | fail))
  all_goals rfl
end Go.Proofs.Ytgldpbghbkoolaa

