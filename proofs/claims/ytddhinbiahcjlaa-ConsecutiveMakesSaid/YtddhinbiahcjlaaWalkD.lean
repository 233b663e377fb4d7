/-
  Lemmas for the proof: no statement of its own.
-/
import Derived.Test.YtddhinbiahcjlaaWalkC
import Derived.Test.YtddhinbiahcjlaaAlD
set_option linter.unusedVariables false
set_option linter.unusedSimpArgs false
-- P p_27s.txt
open Go Go.AL Go.RowKit
namespace Go.Proofs.Ytddhinbiahcjlaa
set_option maxRecDepth 20000
/- slices.BinarySearch[[]int,int] -/
abbrev c17_1 : AC := .reg [⟨(some 4), .mv (.k (.I 0)), none⟩,
  ⟨(some 5), .mv (.k (.B false)), none⟩] false
abbrev c17_2 : AC := .reg [⟨(some 10), .mv (.t 0), none⟩,
  ⟨(some 11), .len (.t 10), none⟩,
  ⟨(some 6), .mv (.t 11), none⟩] false
abbrev c17_3 : AC := .reg [⟨(some 12), .mv (.t 6), none⟩,
  ⟨(some 7), .mv (.k (.I 0)), none⟩,
  ⟨(some 8), .mv (.t 12), none⟩] false
abbrev c17_4 : AC := .reg [⟨(some 13), .mv (.t 7), none⟩,
  ⟨(some 14), .mv (.t 8), none⟩,
  ⟨(some 15), .bin .lss (.t 13) (.t 14), none⟩] false
abbrev c17_5 : AC := .cond (.t 15) .skip (.exit 0)
abbrev c17_6 : AC := .seq c17_4 c17_5
abbrev c17_7 : AC := .reg [⟨(some 16), .mv (.t 7), none⟩,
  ⟨(some 17), .mv (.t 8), none⟩,
  ⟨(some 18), .bin .add (.t 16) (.t 17), none⟩,
  ⟨(some 19), .conv .u64 (.t 18), none⟩,
  ⟨(some 20), .bin .shr (.t 19) (.k (.c (.sc (.int .u64 1)))), none⟩,
  ⟨(some 21), .conv .i64 (.t 20), none⟩,
  ⟨(some 9), .mv (.t 21), none⟩] false
abbrev c17_8 : AC := .reg [⟨(some 22), .mv (.t 0), none⟩,
  ⟨(some 23), .mv (.t 9), none⟩,
  ⟨(some 24), .iad 1 (.t 22) (.t 23), none⟩,
  ⟨(some 25), .ld none (.t 24), none⟩,
  ⟨(some 26), .mv (.t 1), none⟩,
  ⟨(some 27), .call 30 [(.t 25), (.t 26)], none⟩] false
abbrev c17_9 : AC := .reg [⟨(some 28), .mv (.t 9), none⟩,
  ⟨(some 29), .bin .add (.t 28) (.k (.I 1)), none⟩,
  ⟨(some 7), .mv (.t 29), none⟩] false
abbrev c17_10 : AC := .reg [⟨(some 30), .mv (.t 9), none⟩,
  ⟨(some 8), .mv (.t 30), none⟩] false
abbrev c17_11 : AC := .cond (.t 27) c17_9 c17_10
abbrev c17_12 : AC := .seq c17_8 c17_11
abbrev c17_13 : AC := .seq c17_7 c17_12
abbrev c17_14 : AC := .block 1 c17_13
abbrev c17_15 : AC := .seq c17_6 c17_14
abbrev c17_16 : AC := .loop c17_15
abbrev c17_17 : AC := .block 0 c17_16
abbrev c17_18 : AC := .reg [⟨(some 31), .mv (.t 7), none⟩,
  ⟨(some 32), .mv (.t 7), none⟩,
  ⟨(some 33), .mv (.t 6), none⟩,
  ⟨(some 34), .bin .lss (.t 32) (.t 33), none⟩,
  ⟨(some 35), .mv (.t 34), none⟩,
  ⟨(some 36), .mv (.t 0), (some (35, true))⟩,
  ⟨(some 37), .mv (.t 7), (some (35, true))⟩,
  ⟨(some 38), .iad 1 (.t 36) (.t 37), (some (35, true))⟩,
  ⟨(some 39), .ld none (.t 38), (some (35, true))⟩,
  ⟨(some 40), .mv (.t 1), (some (35, true))⟩,
  ⟨(some 41), .bin .eql (.t 39) (.t 40), (some (35, true))⟩,
  ⟨(some 42), .mv (.t 41), (some (35, true))⟩,
  ⟨(some 43), .mv (.t 0), (some (42, false))⟩,
  ⟨(some 44), .mv (.t 7), (some (42, false))⟩,
  ⟨(some 45), .iad 1 (.t 43) (.t 44), (some (42, false))⟩,
  ⟨(some 46), .ld none (.t 45), (some (42, false))⟩,
  ⟨(some 47), .call 31 [(.t 46)], (some (42, false))⟩,
  ⟨(some 48), .mv (.t 47), (some (42, false))⟩,
  ⟨(some 49), .mv (.t 1), (some (48, true))⟩,
  ⟨(some 50), .call 31 [(.t 49)], (some (48, true))⟩,
  ⟨(some 51), .pick (.t 48) (.t 50) (.k (.B false)), (some (42, false))⟩,
  ⟨(some 52), .pick (.t 42) (.k (.B true)) (.t 51), (some (35, true))⟩,
  ⟨(some 53), .pick (.t 35) (.t 52) (.k (.B false)), none⟩,
  ⟨(some 4), .mv (.t 31), none⟩,
  ⟨(some 5), .mv (.t 53), none⟩] false
abbrev c17_19 : AC := .seq c17_18 .ret
abbrev c17_20 : AC := .seq c17_17 c17_19
abbrev c17_21 : AC := .seq c17_3 c17_20
abbrev c17_22 : AC := .seq c17_2 c17_21
abbrev c17_23 : AC := .seq c17_1 c17_22
abbrev c17 : AC := c17_23
theorem code17 : fnCode Try.prog 17 = some (c17, [4, 5], 54) := by kernel_rfl
/- cmp.Less[int] -/
abbrev c30_1 : AC := .reg [⟨(some 4), .mv (.k (.B false)), none⟩] false
abbrev c30_2 : AC := .reg [⟨(some 5), .mv (.t 0), none⟩,
  ⟨(some 6), .call 49 [(.t 5)], none⟩,
  ⟨(some 7), .mv (.t 6), none⟩,
  ⟨(some 8), .mv (.t 1), (some (7, true))⟩,
  ⟨(some 9), .call 49 [(.t 8)], (some (7, true))⟩,
  ⟨(some 10), .not (.t 9), (some (7, true))⟩,
  ⟨(some 11), .pick (.t 7) (.t 10) (.k (.B false)), none⟩,
  ⟨(some 12), .mv (.t 11), none⟩,
  ⟨(some 13), .mv (.t 0), (some (12, false))⟩,
  ⟨(some 14), .mv (.t 1), (some (12, false))⟩,
  ⟨(some 15), .bin .lss (.t 13) (.t 14), (some (12, false))⟩,
  ⟨(some 16), .pick (.t 12) (.k (.B true)) (.t 15), none⟩,
  ⟨(some 4), .mv (.t 16), none⟩] false
abbrev c30_3 : AC := .seq c30_2 .ret
abbrev c30_4 : AC := .seq c30_1 c30_3
abbrev c30 : AC := c30_4
theorem code30 : fnCode Try.prog 30 = some (c30, [4], 17) := by kernel_rfl
/- slices.isNaN[int] -/
/- cmp.isNaN[int] -/
abbrev c49_1 : AC := .reg [⟨(some 2), .mv (.k (.B false)), none⟩] false
abbrev c49_2 : AC := .reg [⟨(some 3), .mv (.t 0), none⟩,
  ⟨(some 4), .mv (.t 0), none⟩,
  ⟨(some 5), .bin .neq (.t 3) (.t 4), none⟩,
  ⟨(some 2), .mv (.t 5), none⟩] false
abbrev c49_3 : AC := .seq c49_2 .ret
abbrev c49_4 : AC := .seq c49_1 c49_3
abbrev c49 : AC := c49_4
theorem code49 : fnCode Try.prog 49 = some (c49, [2], 6) := by kernel_rfl

theorem r49 (x : Int) : FnR Try.prog 49 [.I x] [.c (.B false)] := by
  refine fn_walk code49 (by simp) ?_
  (repeat' (first | refine NextAt.mk (fun hc => ?_) (fun pre n v post hc hkey => ?_) | refine Sni.mk (fun hc => ?_) ?_ | refine Both.mk ?_ ?_ | refine AW_seq ?_ | refine AW_block ?_ | ((first | refine AW_reg ?_ | refine AW_cond ?_ | refine AW_skip ?_ | refine AW_exit ?_ | refine AW_ret ?_ | refine AW_regD (by kernel_rfl) ?_ | refine AW_regX (by kernel_rfl) ?_ | refine CallAtG.t (Eq.refl true) ?_ | refine CallAtG.f (Eq.refl false) ?_); try simp (disch := omega) only [go_sem, seval, reduceCtorEq, ↓reduceIte, beq_dec, Int.toNat_natCast, IntKind.signed, IntKind.bits]) | refine And.intro (fun hc => (?_ : AW _ _ _ _)) (fun hc => (?_ : AW _ _ _ _)) | simp (disch := omega) only [go_sem, seval, reduceCtorEq, ↓reduceIte, beq_dec, Int.toNat_natCast, IntKind.signed, IntKind.bits] | (refine And.intro ?_ ?_; focus (first | (intros; omega) | (intros; simp_all; done))) | refine And.intro (?_ : CallAt _ _ _ _ _ _ _ _) ?_ | refine And.intro (?_ : CallAt _ _ _ _ _ _ _ _ ∧ _) ?_ | refine And.intro (?_ : AW _ _ _ _) ?_ | fail))
theorem r30 (x y : Int) : FnR Try.prog 30 [.I x, .I y] [.c (.B (decide (x < y)))] := by
  have g := r49 x
  refine fn_walk code30 (by simp) ?_
  (repeat' (first | refine NextAt.mk (fun hc => ?_) (fun pre n v post hc hkey => ?_) | refine Sni.mk (fun hc => ?_) ?_ | refine Both.mk ?_ ?_ | refine AW_seq ?_ | refine AW_block ?_ | ((first | refine AW_reg ?_ | refine AW_cond ?_ | refine AW_skip ?_ | refine AW_exit ?_ | refine AW_ret ?_ | refine AW_regD (by kernel_rfl) ?_ | refine AW_regX (by kernel_rfl) ?_ | refine CallAtG.t (Eq.refl true) ?_ | refine CallAtG.f (Eq.refl false) ?_ | refine CallAt.mk _ (g ..) (by first | (intro h; cases h; done) | (intro _; repeat' (first | exact List.forall_mem_nil _ | trivial | refine List.forall_mem_cons.2 ⟨?_, ?_⟩)) | (intro _; simp [RV.flatP, CD.flatP]; done)) ?_ | refine CallAtG.mk _ (fun _ => g ..) ?_ | refine CallDS.mk _ (by simp [RV.data]) (fun _ => g ..) (by first | (intro h; cases h; done) | (intro _; repeat' (first | exact List.forall_mem_nil _ | trivial | refine List.forall_mem_cons.2 ⟨?_, ?_⟩)) | (intro _; simp [RV.flatP, CD.flatP]; done)) ?_); try simp (disch := omega) only [go_sem, seval, reduceCtorEq, ↓reduceIte, beq_dec, Int.toNat_natCast, IntKind.signed, IntKind.bits]) | refine And.intro (fun hc => (?_ : AW _ _ _ _)) (fun hc => (?_ : AW _ _ _ _)) | simp (disch := omega) only [go_sem, seval, reduceCtorEq, ↓reduceIte, beq_dec, Int.toNat_natCast, IntKind.signed, IntKind.bits] | (refine And.intro ?_ ?_; focus (first | (intros; omega) | (intros; simp_all; done))) | refine And.intro (?_ : CallAt _ _ _ _ _ _ _ _) ?_ | refine And.intro (?_ : CallAt _ _ _ _ _ _ _ _ ∧ _) ?_ | refine And.intro (?_ : AW _ _ _ _) ?_ | fail))
structure Wbs where
  (lo hi : Nat)
set_option maxHeartbeats 2000000 in
theorem r17 (l : List Int) (hl : l.length ≤ 1000) (hp : ∀ i j, i < j → j < l.length → nth l i < nth l j) (i : Nat) (hi : i < l.length) : FnR Try.prog 17 [.c (Row l), .I (nth l i)] [.c (.I i), .c (.B true)] := by
  have hlt : ∀ m, m < l.length → (nth l m < nth l i ↔ m < i) := fun m hm => by
    rcases Nat.lt_trichotomy m i with h | rfl | h
    · exact ⟨fun _ => h, fun _ => hp m i h hi⟩
    · constructor <;> intro h <;> omega
    · have := hp i m h hm
      constructor <;> intro h' <;> omega
  refine fn_walk code17 (by simp) ?_
  (repeat' (first | refine NextAt.mk (fun hc => ?_) (fun pre n v post hc hkey => ?_) | refine Sni.mk (fun hc => ?_) ?_ | refine Both.mk ?_ ?_ | refine AW_seq ?_ | refine AW_block ?_ | ((first | refine AW_reg ?_ | refine AW_cond ?_ | refine AW_skip ?_ | refine AW_exit ?_ | refine AW_ret ?_ | refine AW_regD (by kernel_rfl) ?_ | refine AW_regX (by kernel_rfl) ?_ | refine CallAtG.t (Eq.refl true) ?_ | refine CallAtG.f (Eq.refl false) ?_); try simp (disch := omega) only [go_sem, seval, reduceCtorEq, ↓reduceIte, beq_dec, Int.toNat_natCast, IntKind.signed, IntKind.bits, List.length_map]) | refine And.intro (fun hc => (?_ : AW _ _ _ _)) (fun hc => (?_ : AW _ _ _ _)) | simp (disch := omega) only [go_sem, seval, reduceCtorEq, ↓reduceIte, beq_dec, Int.toNat_natCast, IntKind.signed, IntKind.bits, List.length_map] | (refine And.intro ?_ ?_; focus (first | (intros; omega) | (intros; simp_all; done))) | refine And.intro (?_ : CallAt _ _ _ _ _ _ _ _) ?_ | refine And.intro (?_ : CallAt _ _ _ _ _ _ _ _ ∧ _) ?_ | refine And.intro (?_ : AW _ _ _ _) ?_ | fail))
  refine AW_loopK [0, 1, 6] [7, 8, 9, 13, 14, 15, 16, 17, 18, 19, 20, 21, 22, 23, 24, 25, 26, 27, 28, 29, 30] (fun w : Wbs => w.lo ≤ i ∧ i ≤ w.hi ∧ w.hi ≤ l.length) (fun w => [(7, .I w.lo), (8, .I w.hi)]) (fun _ => []) (fun w => w.hi - w.lo) ⟨0, l.length⟩ ⟨by simp, by simp only []; omega, by simp⟩ ?_ ?_
  · simp (disch := omega) only [go_sem, seval, reduceCtorEq, ↓reduceIte, beq_dec, Int.toNat_natCast, IntKind.signed, IntKind.bits, Int.natCast_zero]
  · rintro ⟨lo, hi'⟩ ⟨h1, h2, h3⟩
    simp only at h1 h2 h3
    rcases Nat.lt_or_ge lo hi' with hlh | hlh
    · have g30 := r30 (nth l ((lo + hi') / 2)) (nth l i)
      have e := hlt ((lo + hi') / 2) (by omega)
      have hm : ((lo : Int) + (hi' : Int)) / 2 = (((lo + hi') / 2 : Nat) : Int) := by omega
      have hge := getD_map (fun x : Int => [CD.I x]) l ((lo + hi') / 2) [] (by omega)
      generalize hmm : (lo + hi') / 2 = m at *
      (repeat' (first | refine NextAt.mk (fun hc => ?_) (fun pre n v post hc hkey => ?_) | refine Sni.mk (fun hc => ?_) ?_ | refine Both.mk ?_ ?_ | refine AW_seq ?_ | refine AW_block ?_ | ((first | refine AW_reg ?_ | refine AW_cond ?_ | refine AW_skip ?_ | refine AW_exit ?_ | refine AW_ret ?_ | refine AW_regD (by kernel_rfl) ?_ | refine AW_regX (by kernel_rfl) ?_ | refine CallAtG.t (Eq.refl true) ?_ | refine CallAtG.f (Eq.refl false) ?_ | refine CallAt.mk _ (g30 ..) (by first | (intro h; cases h; done) | (intro _; repeat' (first | exact List.forall_mem_nil _ | trivial | refine List.forall_mem_cons.2 ⟨?_, ?_⟩)) | (intro _; simp [RV.flatP, CD.flatP, List.length_map, inK, hm, hge, Int.toNat_natCast]; done)) ?_ | refine CallAtG.mk _ (fun _ => g30 ..) ?_ | refine CallDS.mk _ (by simp [RV.data]) (fun _ => g30 ..) (by first | (intro h; cases h; done) | (intro _; repeat' (first | exact List.forall_mem_nil _ | trivial | refine List.forall_mem_cons.2 ⟨?_, ?_⟩)) | (intro _; simp [RV.flatP, CD.flatP, List.length_map, inK, hm, hge, Int.toNat_natCast]; done)) ?_); try simp (disch := omega) only [go_sem, seval, reduceCtorEq, ↓reduceIte, beq_dec, Int.toNat_natCast, IntKind.signed, IntKind.bits, List.length_map, inK, hm, hge, Int.toNat_natCast]) | refine And.intro (fun hc => (?_ : AW _ _ _ _)) (fun hc => (?_ : AW _ _ _ _)) | simp (disch := omega) only [go_sem, seval, reduceCtorEq, ↓reduceIte, beq_dec, Int.toNat_natCast, IntKind.signed, IntKind.bits, List.length_map, inK, hm, hge, Int.toNat_natCast] | (refine And.intro ?_ ?_; focus (first | (intros; omega) | (intros; simp_all; done))) | refine And.intro (?_ : CallAt _ _ _ _ _ _ _ _) ?_ | refine And.intro (?_ : CallAt _ _ _ _ _ _ _ _ ∧ _) ?_ | refine And.intro (?_ : AW _ _ _ _) ?_ | refine And.intro (?_ : _ ∧ _) ?_ | fail))
      all_goals first
        | (exfalso; omega)
        | omega
        | (refine .mk ⟨m + 1, hi'⟩ ⟨by have := e.1 (by assumption); simp only []; omega, by simp only []; omega, by simp only []; omega⟩ (by simp only []; omega) ?_
           simp (disch := omega) only [go_sem, seval, reduceCtorEq, ↓reduceIte, beq_dec, Int.toNat_natCast, IntKind.signed, IntKind.bits, Int.natCast_add, Int.natCast_one]
           done)
        | (refine .mk ⟨lo, m⟩ ⟨by simp only []; omega, by have := fun h => (by assumption : ¬ _) (e.2 h); simp only []; omega, by simp only []; omega⟩ (by simp only []; omega) ?_
           simp (disch := omega) only [go_sem, seval, reduceCtorEq, ↓reduceIte, beq_dec, Int.toNat_natCast, IntKind.signed, IntKind.bits, Int.natCast_add, Int.natCast_one]
           done)
        | trace_state
    · obtain rfl : lo = i := by omega
      obtain rfl : hi' = lo := by omega
      have hge := getD_map (fun x : Int => [CD.I x]) l hi' [] (by omega)
      (repeat' (first | refine NextAt.mk (fun hc => ?_) (fun pre n v post hc hkey => ?_) | refine Sni.mk (fun hc => ?_) ?_ | refine Both.mk ?_ ?_ | refine AW_seq ?_ | refine AW_block ?_ | ((first | refine AW_reg ?_ | refine AW_cond ?_ | refine AW_skip ?_ | refine AW_exit ?_ | refine AW_ret ?_ | refine AW_regD (by kernel_rfl) ?_ | refine AW_regX (by kernel_rfl) ?_ | refine CallAtG.t (Eq.refl true) ?_ | refine CallAtG.f (Eq.refl false) ?_); try simp (disch := omega) only [go_sem, seval, reduceCtorEq, ↓reduceIte, beq_dec, Int.toNat_natCast, IntKind.signed, IntKind.bits, List.length_map, inK, hge, Int.toNat_natCast]) | refine And.intro (fun hc => (?_ : AW _ _ _ _)) (fun hc => (?_ : AW _ _ _ _)) | simp (disch := omega) only [go_sem, seval, reduceCtorEq, ↓reduceIte, beq_dec, Int.toNat_natCast, IntKind.signed, IntKind.bits, List.length_map, inK, hge, Int.toNat_natCast] | (refine And.intro ?_ ?_; focus (first | (intros; omega) | (intros; simp_all; done))) | refine And.intro (?_ : CallAt _ _ _ _ _ _ _ _) ?_ | refine And.intro (?_ : CallAt _ _ _ _ _ _ _ _ ∧ _) ?_ | refine And.intro (?_ : AW _ _ _ _) ?_ | refine And.intro (?_ : _ ∧ _) ?_ | fail))
      all_goals first
        | (exfalso; omega)
        | omega
        | trace_state
end Go.Proofs.Ytddhinbiahcjlaa

-- P p_27s.txt
open Go Go.AL Go.RowKit
namespace Go.Proofs.Ytddhinbiahcjlaa
set_option maxRecDepth 20000
/- coinage/consecutive.sides -/
abbrev c14_1 : AC := .reg [⟨(some 2), .box 40 (some 7) (.t 0), none⟩,
  ⟨(some 4), .mv (.k (.I 0)), none⟩,
  ⟨(some 5), .mv (.k (.I 0)), none⟩] false
abbrev c14_2 : AC := .reg [⟨(some 6), .mv (.t 1), none⟩,
  ⟨(some 7), .bin .eql (.t 6) (.k (.I 0)), none⟩] false
abbrev c14_3 : AC := .regD [(⟨(some 8), .fad 1 (.t 2), none⟩, [2]),
  (⟨(some 9), .ld none (.t 8), none⟩, [8]),
  (⟨(some 10), .fad 2 (.t 2), none⟩, [2]),
  (⟨(some 11), .ld none (.t 10), none⟩, [10]),
  (⟨(some 4), .mv (.t 9), none⟩, [9]),
  (⟨(some 5), .mv (.t 11), none⟩, [11])]
abbrev c14_4 : AC := .seq c14_3 .ret
abbrev c14_5 : AC := .cond (.t 7) c14_4 .skip
abbrev c14_6 : AC := .seq c14_2 c14_5
abbrev c14_7 : AC := .regD [(⟨(some 12), .fad 2 (.t 2), none⟩, [2]),
  (⟨(some 13), .ld none (.t 12), none⟩, [12]),
  (⟨(some 14), .fad 1 (.t 2), none⟩, [2]),
  (⟨(some 15), .ld none (.t 14), none⟩, [14]),
  (⟨(some 4), .mv (.t 13), none⟩, [13]),
  (⟨(some 5), .mv (.t 15), none⟩, [15])]
abbrev c14_8 : AC := .seq c14_7 .ret
abbrev c14_9 : AC := .seq c14_6 c14_8
abbrev c14_10 : AC := .seq c14_1 c14_9
abbrev c14 : AC := c14_10
theorem code14 : fnCode Try.prog 14 = some (c14, [4, 5], 16) := by kernel_rfl

structure Cn where
  (id obv rev ost rst ax wt : Int)
deriving DecidableEq, Inhabited
def Cn.cd (s : Cn) : List CD := [.I s.id, .I s.obv, .I s.rev, .I s.ost, .I s.rst, .I s.ax, .I s.wt]
abbrev Cn.av (s : Cn) : AV := .agg [.I s.id, .I s.obv, .I s.rev, .I s.ost, .I s.rst, .I s.ax, .I s.wt]
abbrev Cns (l : List Cn) : CD := .sl 7 (l.map Cn.cd)
/-- the row's and the column's number of a coin -/
def rowC (side : Int) (s : Cn) : Int := if side = 0 then s.obv else s.rev
def colC (side : Int) (s : Cn) : Int := if side = 0 then s.rev else s.obv
theorem r14 (s : Cn) (side : Int) : FnR Try.prog 14 [s.av, .I side] [.c (.I (rowC side s)), .c (.I (colC side s))] := by
  unfold rowC colC
  refine fn_walk code14 (by simp) ?_
  by_cases h : side = 0
  · subst h
    (repeat' (first | refine NextAt.mk (fun hc => ?_) (fun pre n v post hc hkey => ?_) | refine Sni.mk (fun hc => ?_) ?_ | refine Both.mk ?_ ?_ | refine AW_seq ?_ | refine AW_block ?_ | ((first | refine AW_reg ?_ | refine AW_cond ?_ | refine AW_skip ?_ | refine AW_exit ?_ | refine AW_ret ?_ | refine AW_regD (by kernel_rfl) ?_ | refine AW_regX (by kernel_rfl) ?_ | refine CallAtG.t (Eq.refl true) ?_ | refine CallAtG.f (Eq.refl false) ?_); try simp (disch := omega) only [go_sem, seval, reduceCtorEq, ↓reduceIte, beq_dec, Int.toNat_natCast, IntKind.signed, IntKind.bits]) | refine And.intro (fun hc => (?_ : AW _ _ _ _)) (fun hc => (?_ : AW _ _ _ _)) | simp (disch := omega) only [go_sem, seval, reduceCtorEq, ↓reduceIte, beq_dec, Int.toNat_natCast, IntKind.signed, IntKind.bits] | (refine And.intro ?_ ?_; focus (first | (intros; omega) | (intros; simp_all; done))) | refine And.intro (?_ : CallAt _ _ _ _ _ _ _ _) ?_ | refine And.intro (?_ : CallAt _ _ _ _ _ _ _ _ ∧ _) ?_ | refine And.intro (?_ : AW _ _ _ _) ?_ | fail))
  · have e : (side = 0) = False := eq_false h
    (repeat' (first | refine NextAt.mk (fun hc => ?_) (fun pre n v post hc hkey => ?_) | refine Sni.mk (fun hc => ?_) ?_ | refine Both.mk ?_ ?_ | refine AW_seq ?_ | refine AW_block ?_ | ((first | refine AW_reg ?_ | refine AW_cond ?_ | refine AW_skip ?_ | refine AW_exit ?_ | refine AW_ret ?_ | refine AW_regD (by kernel_rfl) ?_ | refine AW_regX (by kernel_rfl) ?_ | refine CallAtG.t (Eq.refl true) ?_ | refine CallAtG.f (Eq.refl false) ?_); try simp (disch := omega) only [go_sem, seval, reduceCtorEq, ↓reduceIte, beq_dec, Int.toNat_natCast, IntKind.signed, IntKind.bits, e]) | refine And.intro (fun hc => (?_ : AW _ _ _ _)) (fun hc => (?_ : AW _ _ _ _)) | simp (disch := omega) only [go_sem, seval, reduceCtorEq, ↓reduceIte, beq_dec, Int.toNat_natCast, IntKind.signed, IntKind.bits, e] | (refine And.intro ?_ ?_; focus (first | (intros; omega) | (intros; simp_all; done))) | refine And.intro (?_ : CallAt _ _ _ _ _ _ _ _) ?_ | refine And.intro (?_ : CallAt _ _ _ _ _ _ _ _ ∧ _) ?_ | refine And.intro (?_ : AW _ _ _ _) ?_ | fail))
end Go.Proofs.Ytddhinbiahcjlaa

-- P p_27s.txt
open Go Go.AL Go.RowKit
namespace Go.Proofs.Ytddhinbiahcjlaa
set_option maxRecDepth 20000
/- coinage/specimen.Valid -/
abbrev c27_1 : AC := .reg [⟨(some 1), .box 40 (some 7) (.t 0), none⟩,
  ⟨(some 2), .mv (.k (.B false)), none⟩] false
abbrev c27_2 : AC := .reg [⟨(some 4), .fad 1 (.t 1), none⟩,
  ⟨(some 5), .ld none (.t 4), none⟩,
  ⟨(some 6), .call 38 [(.t 5), (.k (.I 1)), (.k (.I 999))], none⟩,
  ⟨(some 7), .mv (.t 6), none⟩,
  ⟨(some 8), .fad 2 (.t 1), (some (7, true))⟩,
  ⟨(some 9), .ld none (.t 8), (some (7, true))⟩,
  ⟨(some 10), .call 38 [(.t 9), (.k (.I 1)), (.k (.I 999))], (some (7, true))⟩,
  ⟨(some 11), .pick (.t 7) (.t 10) (.k (.B false)), none⟩,
  ⟨(some 12), .mv (.t 11), none⟩,
  ⟨(some 13), .fad 3 (.t 1), (some (12, true))⟩,
  ⟨(some 14), .ld none (.t 13), (some (12, true))⟩,
  ⟨(some 15), .call 38 [(.t 14), (.k (.I 1)), (.k (.I 9))], (some (12, true))⟩,
  ⟨(some 16), .pick (.t 12) (.t 15) (.k (.B false)), none⟩,
  ⟨(some 17), .mv (.t 16), none⟩,
  ⟨(some 18), .fad 4 (.t 1), (some (17, true))⟩,
  ⟨(some 19), .ld none (.t 18), (some (17, true))⟩,
  ⟨(some 20), .call 38 [(.t 19), (.k (.I 1)), (.k (.I 9))], (some (17, true))⟩,
  ⟨(some 21), .pick (.t 17) (.t 20) (.k (.B false)), none⟩,
  ⟨(some 3), .mv (.t 21), none⟩] false
abbrev c27_3 : AC := .reg [⟨(some 22), .mv (.t 3), none⟩,
  ⟨(some 23), .mv (.t 22), none⟩,
  ⟨(some 24), .fad 0 (.t 1), (some (23, true))⟩,
  ⟨(some 25), .ld none (.t 24), (some (23, true))⟩,
  ⟨(some 26), .call 38 [(.t 25), (.k (.I 1)), (.k (.I 9999))], (some (23, true))⟩,
  ⟨(some 27), .pick (.t 23) (.t 26) (.k (.B false)), none⟩,
  ⟨(some 28), .mv (.t 27), none⟩,
  ⟨(some 29), .fad 5 (.t 1), (some (28, true))⟩,
  ⟨(some 30), .ld none (.t 29), (some (28, true))⟩,
  ⟨(some 31), .call 38 [(.t 30), (.k (.I 0)), (.k (.I 11))], (some (28, true))⟩,
  ⟨(some 32), .pick (.t 28) (.t 31) (.k (.B false)), none⟩,
  ⟨(some 33), .mv (.t 32), none⟩,
  ⟨(some 34), .fad 6 (.t 1), (some (33, true))⟩,
  ⟨(some 35), .ld none (.t 34), (some (33, true))⟩,
  ⟨(some 36), .call 38 [(.t 35), (.k (.I 1)), (.k (.I 200000))], (some (33, true))⟩,
  ⟨(some 37), .pick (.t 33) (.t 36) (.k (.B false)), none⟩,
  ⟨(some 2), .mv (.t 37), none⟩] false
abbrev c27_4 : AC := .seq c27_3 .ret
abbrev c27_5 : AC := .seq c27_2 c27_4
abbrev c27_6 : AC := .seq c27_1 c27_5
abbrev c27 : AC := c27_6
theorem code27 : fnCode Try.prog 27 = some (c27, [2], 38) := by kernel_rfl
/- coinage/specimen.in -/
abbrev c38_1 : AC := .reg [⟨(some 6), .mv (.k (.B false)), none⟩] false
abbrev c38_2 : AC := .reg [⟨(some 7), .mv (.t 0), none⟩,
  ⟨(some 8), .mv (.t 1), none⟩,
  ⟨(some 9), .bin .geq (.t 7) (.t 8), none⟩,
  ⟨(some 10), .mv (.t 9), none⟩,
  ⟨(some 11), .mv (.t 0), (some (10, true))⟩,
  ⟨(some 12), .mv (.t 2), (some (10, true))⟩,
  ⟨(some 13), .bin .leq (.t 11) (.t 12), (some (10, true))⟩,
  ⟨(some 14), .pick (.t 10) (.t 13) (.k (.B false)), none⟩,
  ⟨(some 6), .mv (.t 14), none⟩] false
abbrev c38_3 : AC := .seq c38_2 .ret
abbrev c38_4 : AC := .seq c38_1 c38_3
abbrev c38 : AC := c38_4
theorem code38 : fnCode Try.prog 38 = some (c38, [6], 15) := by kernel_rfl
/- coinage/coinagebase.Specimen -/
abbrev c33_1 : AC := .reg [⟨(some 1), .box 40 (some 7) (.t 0), none⟩,
  ⟨(some 2), .mv (.k (.B false)), none⟩] false
abbrev c33_2 : AC := .reg [⟨(some 4), .fad 1 (.t 1), none⟩,
  ⟨(some 5), .ld none (.t 4), none⟩,
  ⟨(some 6), .call 50 [(.t 5)], none⟩,
  ⟨(some 7), .mv (.t 6), none⟩,
  ⟨(some 8), .fad 2 (.t 1), (some (7, true))⟩,
  ⟨(some 9), .ld none (.t 8), (some (7, true))⟩,
  ⟨(some 10), .call 50 [(.t 9)], (some (7, true))⟩,
  ⟨(some 11), .pick (.t 7) (.t 10) (.k (.B false)), none⟩,
  ⟨(some 12), .mv (.t 11), none⟩,
  ⟨(some 13), .fad 3 (.t 1), (some (12, true))⟩,
  ⟨(some 14), .ld none (.t 13), (some (12, true))⟩,
  ⟨(some 15), .call 51 [(.t 14), (.k (.I 1)), (.k (.I 9))], (some (12, true))⟩,
  ⟨(some 16), .pick (.t 12) (.t 15) (.k (.B false)), none⟩,
  ⟨(some 17), .mv (.t 16), none⟩,
  ⟨(some 18), .fad 4 (.t 1), (some (17, true))⟩,
  ⟨(some 19), .ld none (.t 18), (some (17, true))⟩,
  ⟨(some 20), .call 51 [(.t 19), (.k (.I 1)), (.k (.I 9))], (some (17, true))⟩,
  ⟨(some 21), .pick (.t 17) (.t 20) (.k (.B false)), none⟩,
  ⟨(some 3), .mv (.t 21), none⟩] false
abbrev c33_3 : AC := .reg [⟨(some 22), .fad 0 (.t 1), none⟩,
  ⟨(some 23), .ld none (.t 22), none⟩,
  ⟨(some 24), .call 52 [(.t 23)], none⟩,
  ⟨(some 25), .mv (.t 24), none⟩,
  ⟨(some 26), .mv (.t 3), (some (25, true))⟩,
  ⟨(some 27), .pick (.t 25) (.t 26) (.k (.B false)), none⟩,
  ⟨(some 28), .mv (.t 27), none⟩,
  ⟨(some 29), .fad 5 (.t 1), (some (28, true))⟩,
  ⟨(some 30), .ld none (.t 29), (some (28, true))⟩,
  ⟨(some 31), .call 51 [(.t 30), (.k (.I 0)), (.k (.I 11))], (some (28, true))⟩,
  ⟨(some 32), .pick (.t 28) (.t 31) (.k (.B false)), none⟩,
  ⟨(some 33), .mv (.t 32), none⟩,
  ⟨(some 34), .fad 6 (.t 1), (some (33, true))⟩,
  ⟨(some 35), .ld none (.t 34), (some (33, true))⟩,
  ⟨(some 36), .call 51 [(.t 35), (.k (.I 1)), (.k (.I 200000))], (some (33, true))⟩,
  ⟨(some 37), .pick (.t 33) (.t 36) (.k (.B false)), none⟩,
  ⟨(some 2), .mv (.t 37), none⟩] false
abbrev c33_4 : AC := .seq c33_3 .ret
abbrev c33_5 : AC := .seq c33_2 c33_4
abbrev c33_6 : AC := .seq c33_1 c33_5
abbrev c33 : AC := c33_6
theorem code33 : fnCode Try.prog 33 = some (c33, [2], 38) := by kernel_rfl
/- coinage/coinagebase.Number -/
abbrev c50_1 : AC := .reg [⟨(some 2), .mv (.k (.B false)), none⟩] false
abbrev c50_2 : AC := .reg [⟨(some 3), .mv (.t 0), none⟩,
  ⟨(some 4), .call 51 [(.t 3), (.k (.I 1)), (.k (.I 999))], none⟩,
  ⟨(some 2), .mv (.t 4), none⟩] false
abbrev c50_3 : AC := .seq c50_2 .ret
abbrev c50_4 : AC := .seq c50_1 c50_3
abbrev c50 : AC := c50_4
theorem code50 : fnCode Try.prog 50 = some (c50, [2], 5) := by kernel_rfl
/- coinage/coinagebase.In -/
abbrev c51_1 : AC := .reg [⟨(some 6), .mv (.k (.B false)), none⟩] false
abbrev c51_2 : AC := .reg [⟨(some 7), .mv (.t 0), none⟩,
  ⟨(some 8), .mv (.t 1), none⟩,
  ⟨(some 9), .bin .geq (.t 7) (.t 8), none⟩,
  ⟨(some 10), .mv (.t 9), none⟩,
  ⟨(some 11), .mv (.t 0), (some (10, true))⟩,
  ⟨(some 12), .mv (.t 2), (some (10, true))⟩,
  ⟨(some 13), .bin .leq (.t 11) (.t 12), (some (10, true))⟩,
  ⟨(some 14), .pick (.t 10) (.t 13) (.k (.B false)), none⟩,
  ⟨(some 6), .mv (.t 14), none⟩] false
abbrev c51_3 : AC := .seq c51_2 .ret
abbrev c51_4 : AC := .seq c51_1 c51_3
abbrev c51 : AC := c51_4
theorem code51 : fnCode Try.prog 51 = some (c51, [6], 15) := by kernel_rfl
/- coinage/coinagebase.Id -/
abbrev c52_1 : AC := .reg [⟨(some 2), .mv (.k (.B false)), none⟩] false
abbrev c52_2 : AC := .reg [⟨(some 3), .mv (.t 0), none⟩,
  ⟨(some 4), .call 51 [(.t 3), (.k (.I 1)), (.k (.I 9999))], none⟩,
  ⟨(some 2), .mv (.t 4), none⟩] false
abbrev c52_3 : AC := .seq c52_2 .ret
abbrev c52_4 : AC := .seq c52_1 c52_3
abbrev c52 : AC := c52_4
theorem code52 : fnCode Try.prog 52 = some (c52, [2], 5) := by kernel_rfl

def inB' (x lo hi : Int) : Bool := decide (lo ≤ x) && decide (x ≤ hi)
theorem r38 (x lo hi : Int) : FnR Try.prog 38 [.I x, .I lo, .I hi] [.c (.B (inB' x lo hi))] := by
  refine fn_walk code38 (by simp) ?_
  unfold inB'
  (repeat' (first | refine NextAt.mk (fun hc => ?_) (fun pre n v post hc hkey => ?_) | refine Sni.mk (fun hc => ?_) ?_ | refine Both.mk ?_ ?_ | refine AW_seq ?_ | refine AW_block ?_ | ((first | refine AW_reg ?_ | refine AW_cond ?_ | refine AW_skip ?_ | refine AW_exit ?_ | refine AW_ret ?_ | refine AW_regD (by kernel_rfl) ?_ | refine AW_regX (by kernel_rfl) ?_ | refine CallAtG.t (Eq.refl true) ?_ | refine CallAtG.f (Eq.refl false) ?_); try simp (disch := omega) only [go_sem, seval, reduceCtorEq, ↓reduceIte, beq_dec, Int.toNat_natCast, IntKind.signed, IntKind.bits]) | refine And.intro (fun hc => (?_ : AW _ _ _ _)) (fun hc => (?_ : AW _ _ _ _)) | simp (disch := omega) only [go_sem, seval, reduceCtorEq, ↓reduceIte, beq_dec, Int.toNat_natCast, IntKind.signed, IntKind.bits] | (refine And.intro ?_ ?_; focus (first | (intros; omega) | (intros; simp_all; done))) | refine And.intro (?_ : CallAt _ _ _ _ _ _ _ _) ?_ | refine And.intro (?_ : CallAt _ _ _ _ _ _ _ _ ∧ _) ?_ | refine And.intro (?_ : AW _ _ _ _) ?_ | fail))
theorem r51 (x lo hi : Int) : FnR Try.prog 51 [.I x, .I lo, .I hi] [.c (.B (inB' x lo hi))] := by
  refine fn_walk code51 (by simp) ?_
  unfold inB'
  (repeat' (first | refine NextAt.mk (fun hc => ?_) (fun pre n v post hc hkey => ?_) | refine Sni.mk (fun hc => ?_) ?_ | refine Both.mk ?_ ?_ | refine AW_seq ?_ | refine AW_block ?_ | ((first | refine AW_reg ?_ | refine AW_cond ?_ | refine AW_skip ?_ | refine AW_exit ?_ | refine AW_ret ?_ | refine AW_regD (by kernel_rfl) ?_ | refine AW_regX (by kernel_rfl) ?_ | refine CallAtG.t (Eq.refl true) ?_ | refine CallAtG.f (Eq.refl false) ?_); try simp (disch := omega) only [go_sem, seval, reduceCtorEq, ↓reduceIte, beq_dec, Int.toNat_natCast, IntKind.signed, IntKind.bits]) | refine And.intro (fun hc => (?_ : AW _ _ _ _)) (fun hc => (?_ : AW _ _ _ _)) | simp (disch := omega) only [go_sem, seval, reduceCtorEq, ↓reduceIte, beq_dec, Int.toNat_natCast, IntKind.signed, IntKind.bits] | (refine And.intro ?_ ?_; focus (first | (intros; omega) | (intros; simp_all; done))) | refine And.intro (?_ : CallAt _ _ _ _ _ _ _ _) ?_ | refine And.intro (?_ : CallAt _ _ _ _ _ _ _ _ ∧ _) ?_ | refine And.intro (?_ : AW _ _ _ _) ?_ | fail))
def validS (s : Cn) : Bool := inB' s.obv 1 999 && inB' s.rev 1 999 && inB' s.ost 1 9 && inB' s.rst 1 9 && inB' s.id 1 9999 && inB' s.ax 0 11 && inB' s.wt 1 200000
theorem r27 (s : Cn) : FnR Try.prog 27 [s.av] [.c (.B (validS s))] := by
  refine fn_walk code27 (by simp) ?_
  unfold validS
  (repeat' (first | refine NextAt.mk (fun hc => ?_) (fun pre n v post hc hkey => ?_) | refine Sni.mk (fun hc => ?_) ?_ | refine Both.mk ?_ ?_ | refine AW_seq ?_ | refine AW_block ?_ | ((first | refine AW_reg ?_ | refine AW_cond ?_ | refine AW_skip ?_ | refine AW_exit ?_ | refine AW_ret ?_ | refine AW_regD (by kernel_rfl) ?_ | refine AW_regX (by kernel_rfl) ?_ | refine CallAtG.t (Eq.refl true) ?_ | refine CallAtG.f (Eq.refl false) ?_ | refine CallAt.mk _ (r38 ..) (by first | (intro h; cases h; done) | (intro _; repeat' (first | exact List.forall_mem_nil _ | trivial | refine List.forall_mem_cons.2 ⟨?_, ?_⟩)) | (intro _; simp [RV.flatP, CD.flatP]; done)) ?_ | refine CallAtG.mk _ (fun _ => r38 ..) ?_ | refine CallDS.mk _ (by simp [RV.data]) (fun _ => r38 ..) (by first | (intro h; cases h; done) | (intro _; repeat' (first | exact List.forall_mem_nil _ | trivial | refine List.forall_mem_cons.2 ⟨?_, ?_⟩)) | (intro _; simp [RV.flatP, CD.flatP]; done)) ?_); try simp (disch := omega) only [go_sem, seval, reduceCtorEq, ↓reduceIte, beq_dec, Int.toNat_natCast, IntKind.signed, IntKind.bits]) | refine And.intro (fun hc => (?_ : AW _ _ _ _)) (fun hc => (?_ : AW _ _ _ _)) | simp (disch := omega) only [go_sem, seval, reduceCtorEq, ↓reduceIte, beq_dec, Int.toNat_natCast, IntKind.signed, IntKind.bits] | (refine And.intro ?_ ?_; focus (first | (intros; omega) | (intros; simp_all; done))) | refine And.intro (?_ : CallAt _ _ _ _ _ _ _ _) ?_ | refine And.intro (?_ : CallAt _ _ _ _ _ _ _ _ ∧ _) ?_ | refine And.intro (?_ : AW _ _ _ _) ?_ | fail))
theorem r50 (x : Int) : FnR Try.prog 50 [.I x] [.c (.B (inB' x 1 999))] := by
  have g := r51 x 1 999
  refine fn_walk code50 (by simp) ?_
  (repeat' (first | refine NextAt.mk (fun hc => ?_) (fun pre n v post hc hkey => ?_) | refine Sni.mk (fun hc => ?_) ?_ | refine Both.mk ?_ ?_ | refine AW_seq ?_ | refine AW_block ?_ | ((first | refine AW_reg ?_ | refine AW_cond ?_ | refine AW_skip ?_ | refine AW_exit ?_ | refine AW_ret ?_ | refine AW_regD (by kernel_rfl) ?_ | refine AW_regX (by kernel_rfl) ?_ | refine CallAtG.t (Eq.refl true) ?_ | refine CallAtG.f (Eq.refl false) ?_ | refine CallAt.mk _ (g ..) (by first | (intro h; cases h; done) | (intro _; repeat' (first | exact List.forall_mem_nil _ | trivial | refine List.forall_mem_cons.2 ⟨?_, ?_⟩)) | (intro _; simp [RV.flatP, CD.flatP]; done)) ?_ | refine CallAtG.mk _ (fun _ => g ..) ?_ | refine CallDS.mk _ (by simp [RV.data]) (fun _ => g ..) (by first | (intro h; cases h; done) | (intro _; repeat' (first | exact List.forall_mem_nil _ | trivial | refine List.forall_mem_cons.2 ⟨?_, ?_⟩)) | (intro _; simp [RV.flatP, CD.flatP]; done)) ?_); try simp (disch := omega) only [go_sem, seval, reduceCtorEq, ↓reduceIte, beq_dec, Int.toNat_natCast, IntKind.signed, IntKind.bits]) | refine And.intro (fun hc => (?_ : AW _ _ _ _)) (fun hc => (?_ : AW _ _ _ _)) | simp (disch := omega) only [go_sem, seval, reduceCtorEq, ↓reduceIte, beq_dec, Int.toNat_natCast, IntKind.signed, IntKind.bits] | (refine And.intro ?_ ?_; focus (first | (intros; omega) | (intros; simp_all; done))) | refine And.intro (?_ : CallAt _ _ _ _ _ _ _ _) ?_ | refine And.intro (?_ : CallAt _ _ _ _ _ _ _ _ ∧ _) ?_ | refine And.intro (?_ : AW _ _ _ _) ?_ | fail))
theorem r52 (x : Int) : FnR Try.prog 52 [.I x] [.c (.B (inB' x 1 9999))] := by
  have g := r51 x 1 9999
  refine fn_walk code52 (by simp) ?_
  (repeat' (first | refine NextAt.mk (fun hc => ?_) (fun pre n v post hc hkey => ?_) | refine Sni.mk (fun hc => ?_) ?_ | refine Both.mk ?_ ?_ | refine AW_seq ?_ | refine AW_block ?_ | ((first | refine AW_reg ?_ | refine AW_cond ?_ | refine AW_skip ?_ | refine AW_exit ?_ | refine AW_ret ?_ | refine AW_regD (by kernel_rfl) ?_ | refine AW_regX (by kernel_rfl) ?_ | refine CallAtG.t (Eq.refl true) ?_ | refine CallAtG.f (Eq.refl false) ?_ | refine CallAt.mk _ (g ..) (by first | (intro h; cases h; done) | (intro _; repeat' (first | exact List.forall_mem_nil _ | trivial | refine List.forall_mem_cons.2 ⟨?_, ?_⟩)) | (intro _; simp [RV.flatP, CD.flatP]; done)) ?_ | refine CallAtG.mk _ (fun _ => g ..) ?_ | refine CallDS.mk _ (by simp [RV.data]) (fun _ => g ..) (by first | (intro h; cases h; done) | (intro _; repeat' (first | exact List.forall_mem_nil _ | trivial | refine List.forall_mem_cons.2 ⟨?_, ?_⟩)) | (intro _; simp [RV.flatP, CD.flatP]; done)) ?_); try simp (disch := omega) only [go_sem, seval, reduceCtorEq, ↓reduceIte, beq_dec, Int.toNat_natCast, IntKind.signed, IntKind.bits]) | refine And.intro (fun hc => (?_ : AW _ _ _ _)) (fun hc => (?_ : AW _ _ _ _)) | simp (disch := omega) only [go_sem, seval, reduceCtorEq, ↓reduceIte, beq_dec, Int.toNat_natCast, IntKind.signed, IntKind.bits] | (refine And.intro ?_ ?_; focus (first | (intros; omega) | (intros; simp_all; done))) | refine And.intro (?_ : CallAt _ _ _ _ _ _ _ _) ?_ | refine And.intro (?_ : CallAt _ _ _ _ _ _ _ _ ∧ _) ?_ | refine And.intro (?_ : AW _ _ _ _) ?_ | fail))
theorem r33 (s : Cn) : FnR Try.prog 33 [s.av] [.c (.B (validS s))] := by
  refine fn_walk code33 (by simp) ?_
  unfold validS
  (repeat' (first | refine NextAt.mk (fun hc => ?_) (fun pre n v post hc hkey => ?_) | refine Sni.mk (fun hc => ?_) ?_ | refine Both.mk ?_ ?_ | refine AW_seq ?_ | refine AW_block ?_ | ((first | refine AW_reg ?_ | refine AW_cond ?_ | refine AW_skip ?_ | refine AW_exit ?_ | refine AW_ret ?_ | refine AW_regD (by kernel_rfl) ?_ | refine AW_regX (by kernel_rfl) ?_ | refine CallAtG.t (Eq.refl true) ?_ | refine CallAtG.f (Eq.refl false) ?_ | refine CallAt.mk _ (r50 ..) (by first | (intro h; cases h; done) | (intro _; repeat' (first | exact List.forall_mem_nil _ | trivial | refine List.forall_mem_cons.2 ⟨?_, ?_⟩)) | (intro _; simp [RV.flatP, CD.flatP]; done)) ?_ | refine CallAtG.mk _ (fun _ => r50 ..) ?_ | refine CallDS.mk _ (by simp [RV.data]) (fun _ => r50 ..) (by first | (intro h; cases h; done) | (intro _; repeat' (first | exact List.forall_mem_nil _ | trivial | refine List.forall_mem_cons.2 ⟨?_, ?_⟩)) | (intro _; simp [RV.flatP, CD.flatP]; done)) ?_ | refine CallAt.mk _ (r51 ..) (by first | (intro h; cases h; done) | (intro _; repeat' (first | exact List.forall_mem_nil _ | trivial | refine List.forall_mem_cons.2 ⟨?_, ?_⟩)) | (intro _; simp [RV.flatP, CD.flatP]; done)) ?_ | refine CallAtG.mk _ (fun _ => r51 ..) ?_ | refine CallDS.mk _ (by simp [RV.data]) (fun _ => r51 ..) (by first | (intro h; cases h; done) | (intro _; repeat' (first | exact List.forall_mem_nil _ | trivial | refine List.forall_mem_cons.2 ⟨?_, ?_⟩)) | (intro _; simp [RV.flatP, CD.flatP]; done)) ?_ | refine CallAt.mk _ (r52 ..) (by first | (intro h; cases h; done) | (intro _; repeat' (first | exact List.forall_mem_nil _ | trivial | refine List.forall_mem_cons.2 ⟨?_, ?_⟩)) | (intro _; simp [RV.flatP, CD.flatP]; done)) ?_ | refine CallAtG.mk _ (fun _ => r52 ..) ?_ | refine CallDS.mk _ (by simp [RV.data]) (fun _ => r52 ..) (by first | (intro h; cases h; done) | (intro _; repeat' (first | exact List.forall_mem_nil _ | trivial | refine List.forall_mem_cons.2 ⟨?_, ?_⟩)) | (intro _; simp [RV.flatP, CD.flatP]; done)) ?_); try simp (disch := omega) only [go_sem, seval, reduceCtorEq, ↓reduceIte, beq_dec, Int.toNat_natCast, IntKind.signed, IntKind.bits]) | refine And.intro (fun hc => (?_ : AW _ _ _ _)) (fun hc => (?_ : AW _ _ _ _)) | simp (disch := omega) only [go_sem, seval, reduceCtorEq, ↓reduceIte, beq_dec, Int.toNat_natCast, IntKind.signed, IntKind.bits] | (refine And.intro ?_ ?_; focus (first | (intros; omega) | (intros; simp_all; done))) | refine And.intro (?_ : CallAt _ _ _ _ _ _ _ _) ?_ | refine And.intro (?_ : CallAt _ _ _ _ _ _ _ _ ∧ _) ?_ | refine And.intro (?_ : AW _ _ _ _) ?_ | fail))
  generalize inB' s.id 1 9999 = x1, inB' s.obv 1 999 = x2, inB' s.rev 1 999 = x3, inB' s.ost 1 9 = x4, inB' s.rst 1 9 = x5
  cases x1 <;> cases x2 <;> cases x3 <;> cases x4 <;> cases x5 <;> rfl
end Go.Proofs.Ytddhinbiahcjlaa

-- P p_27s.txt
open Go Go.AL Go.RowKit
namespace Go.Proofs.Ytddhinbiahcjlaa
set_option maxRecDepth 20000
/- coinage/specimen.Check -/
abbrev c13_1 : AC := .reg [⟨(some 2), .mv (.k (.I 0)), none⟩] false
abbrev c13_2 : AC := .reg [⟨(some 7), .mv (.t 0), none⟩,
  ⟨(some 8), .len (.t 7), none⟩,
  ⟨(some 9), .bin .gtr (.t 8) (.k (.I 64)), none⟩] false
abbrev c13_3 : AC := .reg [⟨(some 2), .mv (.k (.I 6)), none⟩] false
abbrev c13_4 : AC := .seq c13_3 .ret
abbrev c13_5 : AC := .cond (.t 9) c13_4 .skip
abbrev c13_6 : AC := .seq c13_2 c13_5
abbrev c13_7 : AC := .reg [⟨(some 10), .mkmap (.one .i64), none⟩,
  ⟨(some 3), .mv (.t 10), none⟩] false
abbrev c13_8 : AC := .reg [⟨(some 4), .mv (.k (.B false)), none⟩] false
abbrev c13_9 : AC := .reg [⟨(some 11), .mv (.t 0), none⟩,
  ⟨(some 12), .len (.t 11), none⟩,
  ⟨(some 13), .mv (.k (.I 0)), none⟩] false
abbrev c13_10 : AC := .reg [⟨(some 14), .bin .lss (.t 13) (.t 12), none⟩] false
abbrev c13_11 : AC := .cond (.t 14) .skip (.exit 0)
abbrev c13_12 : AC := .reg [⟨(some 15), .iad 7 (.t 11) (.t 13), none⟩,
  ⟨(some 16), .ld (some 7) (.t 15), none⟩,
  ⟨(some 6), .alloc 40 [(.I 0), (.I 0), (.I 0), (.I 0), (.I 0), (.I 0), (.I 0)], none⟩,
  ⟨none, .st (some 7) (.t 6) (.t 16), none⟩] false
abbrev c13_13 : AC := .reg [⟨(some 17), .ld (some 7) (.t 6), none⟩,
  ⟨(some 18), .call 27 [(.t 17)], none⟩,
  ⟨(some 19), .not (.t 18), none⟩] false
abbrev c13_14 : AC := .reg [⟨(some 2), .mv (.k (.I 1)), none⟩] false
abbrev c13_15 : AC := .seq c13_14 .ret
abbrev c13_16 : AC := .cond (.t 19) c13_15 .skip
abbrev c13_17 : AC := .seq c13_13 c13_16
abbrev c13_18 : AC := .reg [⟨(some 20), .mv (.t 4), none⟩,
  ⟨(some 21), .mv (.t 20), none⟩,
  ⟨(some 22), .mv (.t 3), (some (21, false))⟩,
  ⟨(some 23), .fad 0 (.t 6), (some (21, false))⟩,
  ⟨(some 24), .ld none (.t 23), (some (21, false))⟩,
  ⟨(some 25), .look (.one .i64) (.inl (.sc (.bool false))) false (.t 22) (.t 24), (some (21, false))⟩,
  ⟨(some 26), .pick (.t 21) (.k (.B true)) (.t 25), none⟩,
  ⟨(some 4), .mv (.t 26), none⟩] false
abbrev c13_19 : AC := .reg [⟨(some 27), .mv (.t 3), none⟩,
  ⟨(some 28), .fad 0 (.t 6), none⟩,
  ⟨(some 29), .ld none (.t 28), none⟩,
  ⟨none, .mset (.one .i64) (.t 27) (.t 29) (.k (.B true)), none⟩] false
abbrev c13_20 : AC := .seq c13_18 c13_19
abbrev c13_21 : AC := .seq c13_17 c13_20
abbrev c13_22 : AC := .seq c13_12 c13_21
abbrev c13_23 : AC := .block 1 c13_22
abbrev c13_24 : AC := .reg [⟨(some 30), .bin .add (.t 13) (.k (.I 1)), none⟩,
  ⟨(some 13), .mv (.t 30), none⟩] false
abbrev c13_25 : AC := .seq c13_23 c13_24
abbrev c13_26 : AC := .seq c13_11 c13_25
abbrev c13_27 : AC := .seq c13_10 c13_26
abbrev c13_28 : AC := .loop c13_27
abbrev c13_29 : AC := .block 0 c13_28
abbrev c13_30 : AC := .seq c13_9 c13_29
abbrev c13_31 : AC := .reg [⟨(some 31), .mv (.t 4), none⟩] false
abbrev c13_32 : AC := .reg [⟨(some 2), .mv (.k (.I 8)), none⟩] false
abbrev c13_33 : AC := .seq c13_32 .ret
abbrev c13_34 : AC := .cond (.t 31) c13_33 .skip
abbrev c13_35 : AC := .seq c13_31 c13_34
abbrev c13_36 : AC := .reg [⟨(some 2), .mv (.k (.I 0)), none⟩] false
abbrev c13_37 : AC := .seq c13_36 .ret
abbrev c13_38 : AC := .seq c13_35 c13_37
abbrev c13_39 : AC := .seq c13_30 c13_38
abbrev c13_40 : AC := .seq c13_8 c13_39
abbrev c13_41 : AC := .seq c13_7 c13_40
abbrev c13_42 : AC := .seq c13_6 c13_41
abbrev c13_43 : AC := .seq c13_1 c13_42
abbrev c13 : AC := c13_43
theorem code13 : fnCode Try.prog 13 = some (c13, [2], 32) := by kernel_rfl

def idsC (l : List Cn) : Nat → List Int
  | 0 => []
  | i + 1 => if (nth l i).id ∈ idsC l i then idsC l i else idsC l i ++ [(nth l i).id]
def twiceC (l : List Cn) : Nat → Bool
  | 0 => false
  | i + 1 => twiceC l i || decide ((nth l i).id ∈ idsC l i)
def idMapC (l : List Int) : List (List Int × Sum CD (List CD)) := l.map fun n => ([n], .inl (.B true))
theorem idMapC_look (n : Int) : ∀ l : List Int, argAV ((mlook (idMapC l) [n]).getD (.inl (.sc (.bool false)))) = .B (decide (n ∈ l))
  | [] => rfl
  | m :: r => by
    have := idMapC_look n r
    simp only [idMapC, List.map_cons, mlook] at this ⊢
    by_cases h : n = m
    · simp [h, argAV]
    · simp [h, this]
theorem idMapC_set (n : Int) : ∀ l : List Int, mset (idMapC l) [n] (.inl (.B true)) = idMapC (if n ∈ l then l else l ++ [n])
  | [] => rfl
  | m :: r => by
    have := idMapC_set n r
    simp only [idMapC, List.map_cons, mset] at this ⊢
    by_cases h : n = m
    · simp [h]
    · rw [if_neg (by simpa using h), this]
      by_cases h2 : n ∈ r <;> simp [h, h2]
def chkC (l : List Cn) : Int := if 64 < l.length then 6 else if l.all validS then (if twiceC l l.length then 8 else 0) else 1
theorem r13 (l : List Cn) : FnR Try.prog 13 [.c (Cns l)] [.c (.I (chkC l))] := by
  refine fn_walk code13 (by simp) ?_
  (repeat' (first | refine NextAt.mk (fun hc => ?_) (fun pre n v post hc hkey => ?_) | refine Sni.mk (fun hc => ?_) ?_ | refine Both.mk ?_ ?_ | refine AW_seq ?_ | refine AW_block ?_ | ((first | refine AW_reg ?_ | refine AW_cond ?_ | refine AW_skip ?_ | refine AW_exit ?_ | refine AW_ret ?_ | refine AW_regD (by kernel_rfl) ?_ | refine AW_regX (by kernel_rfl) ?_ | refine CallAtG.t (Eq.refl true) ?_ | refine CallAtG.f (Eq.refl false) ?_); try simp (disch := omega) only [go_sem, seval, reduceCtorEq, ↓reduceIte, beq_dec, Int.toNat_natCast, IntKind.signed, IntKind.bits]) | refine And.intro (fun hc => (?_ : AW _ _ _ _)) (fun hc => (?_ : AW _ _ _ _)) | simp (disch := omega) only [go_sem, seval, reduceCtorEq, ↓reduceIte, beq_dec, Int.toNat_natCast, IntKind.signed, IntKind.bits] | (refine And.intro ?_ ?_; focus (first | (intros; omega) | (intros; simp_all; done))) | refine And.intro (?_ : CallAt _ _ _ _ _ _ _ _) ?_ | refine And.intro (?_ : CallAt _ _ _ _ _ _ _ _ ∧ _) ?_ | refine And.intro (?_ : AW _ _ _ _) ?_ | fail))
  · unfold chkC; rw [if_pos (by omega)]
  · refine AW_loopK [3, 11, 12] [2, 4, 6, 13, 14, 15, 16, 17, 18, 19, 20, 21, 22, 23, 24, 25, 26, 27, 28, 29, 30] (fun i : Nat => i ≤ l.length ∧ ∀ j, j < i → validS (nth l j) = true) (fun i => [(13, .I i), (3, .own 10), (4, .B (twiceC l i))]) (fun i => [(10, .map (.one .i64) (idMapC (idsC l i)))]) (fun i => l.length - i) 0 ⟨by omega, by omega⟩ ?_ ?_
    · simp (disch := omega) only [go_sem, seval, reduceCtorEq, ↓reduceIte, beq_dec, Int.toNat_natCast, IntKind.signed, IntKind.bits, twiceC, idsC, idMapC, Int.natCast_zero, List.map_nil]
    · rintro i ⟨hi, hv⟩
      (repeat' (first | refine NextAt.mk (fun hc => ?_) (fun pre n v post hc hkey => ?_) | refine Sni.mk (fun hc => ?_) ?_ | refine Both.mk ?_ ?_ | refine AW_seq ?_ | refine AW_block ?_ | ((first | refine AW_reg ?_ | refine AW_cond ?_ | refine AW_skip ?_ | refine AW_exit ?_ | refine AW_ret ?_ | refine AW_regD (by kernel_rfl) ?_ | refine AW_regX (by kernel_rfl) ?_ | refine CallAtG.t (Eq.refl true) ?_ | refine CallAtG.f (Eq.refl false) ?_ | refine CallAt.mk _ (r27 ..) (by first | (intro h; cases h; done) | (intro _; repeat' (first | exact List.forall_mem_nil _ | trivial | refine List.forall_mem_cons.2 ⟨?_, ?_⟩)) | (intro _; simp [RV.flatP, CD.flatP, getD_map Cn.cd, Cn.cd, idMapC_look, idMapC_set]; done)) ?_ | refine CallAtG.mk _ (fun _ => r27 ..) ?_ | refine CallDS.mk _ (by simp [RV.data]) (fun _ => r27 ..) (by first | (intro h; cases h; done) | (intro _; repeat' (first | exact List.forall_mem_nil _ | trivial | refine List.forall_mem_cons.2 ⟨?_, ?_⟩)) | (intro _; simp [RV.flatP, CD.flatP, getD_map Cn.cd, Cn.cd, idMapC_look, idMapC_set]; done)) ?_); try simp (disch := omega) only [go_sem, seval, reduceCtorEq, ↓reduceIte, beq_dec, Int.toNat_natCast, IntKind.signed, IntKind.bits, getD_map Cn.cd, Cn.cd, idMapC_look, idMapC_set]) | refine And.intro (fun hc => (?_ : AW _ _ _ _)) (fun hc => (?_ : AW _ _ _ _)) | simp (disch := omega) only [go_sem, seval, reduceCtorEq, ↓reduceIte, beq_dec, Int.toNat_natCast, IntKind.signed, IntKind.bits, getD_map Cn.cd, Cn.cd, idMapC_look, idMapC_set] | (refine And.intro ?_ ?_; focus (first | (intros; omega) | (intros; simp_all; done))) | refine And.intro (?_ : CallAt _ _ _ _ _ _ _ _) ?_ | refine And.intro (?_ : CallAt _ _ _ _ _ _ _ _ ∧ _) ?_ | refine And.intro (?_ : AW _ _ _ _) ?_ | fail))
      · unfold chkC
        rw [if_neg (by omega), if_neg]
        intro h
        rw [List.all_eq_true] at h
        have := h (nth l i) (nth_mem l i (by omega))
        rw [hc] at this; cases this
      · refine .mk (i + 1) ⟨by omega, fun j hj => ?_⟩ (by omega) ?_
        · rcases Nat.lt_succ_iff_lt_or_eq.1 hj with h | rfl
          · exact hv j h
          · exact hc
        · simp (disch := omega) only [go_sem, seval, reduceCtorEq, ↓reduceIte, beq_dec, Int.toNat_natCast, IntKind.signed, IntKind.bits, Int.natCast_add, Int.natCast_one, twiceC, idsC]
      all_goals (
        unfold chkC
        have hil : i = l.length := by omega
        subst hil)
      · rw [if_neg (by omega), if_pos (all_nth hv), if_pos hc]
      · rw [if_neg (by omega), if_pos (all_nth hv), if_neg (by simp [hc])]
end Go.Proofs.Ytddhinbiahcjlaa

-- P p_27s.txt
open Go Go.AL Go.RowKit
namespace Go.Proofs.Ytddhinbiahcjlaa
set_option maxRecDepth 20000
/- coinage/coinagebase.Check -/
abbrev c19_1 : AC := .reg [⟨(some 2), .mv (.k (.I 0)), none⟩] false
abbrev c19_2 : AC := .reg [⟨(some 6), .mv (.t 0), none⟩,
  ⟨(some 7), .len (.t 6), none⟩,
  ⟨(some 8), .bin .gtr (.t 7) (.k (.I 64)), none⟩] false
abbrev c19_3 : AC := .reg [⟨(some 2), .mv (.k (.I 6)), none⟩] false
abbrev c19_4 : AC := .seq c19_3 .ret
abbrev c19_5 : AC := .cond (.t 8) c19_4 .skip
abbrev c19_6 : AC := .seq c19_2 c19_5
abbrev c19_7 : AC := .reg [⟨(some 3), .mv (.k (.I 0)), none⟩] false
abbrev c19_8 : AC := .reg [⟨(some 9), .mv (.t 3), none⟩,
  ⟨(some 10), .mv (.t 0), none⟩,
  ⟨(some 11), .len (.t 10), none⟩,
  ⟨(some 12), .bin .lss (.t 9) (.t 11), none⟩] false
abbrev c19_9 : AC := .cond (.t 12) .skip (.exit 0)
abbrev c19_10 : AC := .seq c19_8 c19_9
abbrev c19_11 : AC := .reg [⟨(some 15), .mv (.t 0), none⟩,
  ⟨(some 16), .mv (.t 3), none⟩,
  ⟨(some 17), .iad 7 (.t 15) (.t 16), none⟩,
  ⟨(some 18), .ld (some 7) (.t 17), none⟩,
  ⟨(some 19), .call 33 [(.t 18)], none⟩,
  ⟨(some 20), .not (.t 19), none⟩] false
abbrev c19_12 : AC := .reg [⟨(some 2), .mv (.k (.I 1)), none⟩] false
abbrev c19_13 : AC := .seq c19_12 .ret
abbrev c19_14 : AC := .cond (.t 20) c19_13 .skip
abbrev c19_15 : AC := .seq c19_11 c19_14
abbrev c19_16 : AC := .block 1 c19_15
abbrev c19_17 : AC := .reg [⟨(some 13), .mv (.t 3), none⟩,
  ⟨(some 14), .bin .add (.t 13) (.k (.I 1)), none⟩,
  ⟨(some 3), .mv (.t 14), none⟩] false
abbrev c19_18 : AC := .seq c19_16 c19_17
abbrev c19_19 : AC := .seq c19_10 c19_18
abbrev c19_20 : AC := .loop c19_19
abbrev c19_21 : AC := .block 0 c19_20
abbrev c19_22 : AC := .seq c19_7 c19_21
abbrev c19_23 : AC := .reg [⟨(some 4), .mv (.k (.I 0)), none⟩] false
abbrev c19_24 : AC := .reg [⟨(some 21), .mv (.t 4), none⟩,
  ⟨(some 22), .mv (.t 0), none⟩,
  ⟨(some 23), .len (.t 22), none⟩,
  ⟨(some 24), .bin .lss (.t 21) (.t 23), none⟩] false
abbrev c19_25 : AC := .cond (.t 24) .skip (.exit 2)
abbrev c19_26 : AC := .seq c19_24 c19_25
abbrev c19_27 : AC := .reg [⟨(some 5), .mv (.k (.I 0)), none⟩] false
abbrev c19_28 : AC := .reg [⟨(some 27), .mv (.t 5), none⟩,
  ⟨(some 28), .mv (.t 4), none⟩,
  ⟨(some 29), .bin .lss (.t 27) (.t 28), none⟩] false
abbrev c19_29 : AC := .cond (.t 29) .skip (.exit 4)
abbrev c19_30 : AC := .seq c19_28 c19_29
abbrev c19_31 : AC := .regD [(⟨(some 32), .mv (.t 0), none⟩, [0]),
  (⟨(some 33), .mv (.t 4), none⟩, [4]),
  (⟨(some 34), .iad 7 (.t 32) (.t 33), none⟩, [32, 33]),
  (⟨(some 35), .fad 0 (.t 34), none⟩, [34]),
  (⟨(some 36), .ld none (.t 35), none⟩, [35]),
  (⟨(some 37), .mv (.t 0), none⟩, [0]),
  (⟨(some 38), .mv (.t 5), none⟩, [5]),
  (⟨(some 39), .iad 7 (.t 37) (.t 38), none⟩, [37, 38]),
  (⟨(some 40), .fad 0 (.t 39), none⟩, [39]),
  (⟨(some 41), .ld none (.t 40), none⟩, [40]),
  (⟨(some 42), .bin .eql (.t 36) (.t 41), none⟩, [36, 41])]
abbrev c19_32 : AC := .reg [⟨(some 2), .mv (.k (.I 8)), none⟩] false
abbrev c19_33 : AC := .seq c19_32 .ret
abbrev c19_34 : AC := .cond (.t 42) c19_33 .skip
abbrev c19_35 : AC := .seq c19_31 c19_34
abbrev c19_36 : AC := .block 5 c19_35
abbrev c19_37 : AC := .reg [⟨(some 30), .mv (.t 5), none⟩,
  ⟨(some 31), .bin .add (.t 30) (.k (.I 1)), none⟩,
  ⟨(some 5), .mv (.t 31), none⟩] false
abbrev c19_38 : AC := .seq c19_36 c19_37
abbrev c19_39 : AC := .seq c19_30 c19_38
abbrev c19_40 : AC := .loop c19_39
abbrev c19_41 : AC := .block 4 c19_40
abbrev c19_42 : AC := .seq c19_27 c19_41
abbrev c19_43 : AC := .block 3 c19_42
abbrev c19_44 : AC := .reg [⟨(some 25), .mv (.t 4), none⟩,
  ⟨(some 26), .bin .add (.t 25) (.k (.I 1)), none⟩,
  ⟨(some 4), .mv (.t 26), none⟩] false
abbrev c19_45 : AC := .seq c19_43 c19_44
abbrev c19_46 : AC := .seq c19_26 c19_45
abbrev c19_47 : AC := .loop c19_46
abbrev c19_48 : AC := .block 2 c19_47
abbrev c19_49 : AC := .seq c19_23 c19_48
abbrev c19_50 : AC := .reg [⟨(some 2), .mv (.k (.I 0)), none⟩] false
abbrev c19_51 : AC := .seq c19_50 .ret
abbrev c19_52 : AC := .seq c19_49 c19_51
abbrev c19_53 : AC := .seq c19_22 c19_52
abbrev c19_54 : AC := .seq c19_6 c19_53
abbrev c19_55 : AC := .seq c19_1 c19_54
abbrev c19 : AC := c19_55
theorem code19 : fnCode Try.prog 19 = some (c19, [2], 43) := by kernel_rfl

theorem idsC_mem (l : List Cn) (x : Int) : ∀ i, x ∈ idsC l i ↔ ∃ k, k < i ∧ (nth l k).id = x
  | 0 => by simp [idsC]
  | i + 1 => by
    have ih := idsC_mem l x i
    have key : x ∈ idsC l (i + 1) ↔ x ∈ idsC l i ∨ (nth l i).id = x := by
      simp only [idsC]
      split
      · rename_i h
        exact ⟨.inl, fun h' => by rcases h' with h' | rfl; exact h'; exact h⟩
      · rw [List.mem_append, List.mem_singleton]
        exact ⟨fun h => h.imp id Eq.symm, fun h => h.imp id Eq.symm⟩
    rw [key, ih]
    constructor
    · rintro (⟨k, h1, h2⟩ | h)
      · exact ⟨k, by omega, h2⟩
      · exact ⟨i, by omega, h⟩
    · rintro ⟨k, h1, h2⟩
      rcases Nat.lt_succ_iff_lt_or_eq.1 h1 with h1 | rfl
      · exact .inl ⟨k, h1, h2⟩
      · exact .inr h2
theorem twiceC_iff (l : List Cn) : ∀ n, twiceC l n = true ↔ ∃ i k, i < n ∧ k < i ∧ (nth l i).id = (nth l k).id
  | 0 => by simp [twiceC]
  | n + 1 => by
    have ih := twiceC_iff l n
    simp only [twiceC, Bool.or_eq_true, decide_eq_true_eq, ih, idsC_mem]
    constructor
    · rintro (⟨i, k, h1, h2, h3⟩ | ⟨k, h1, h2⟩)
      · exact ⟨i, k, by omega, h2, h3⟩
      · exact ⟨n, k, by omega, h1, h2.symm⟩
    · rintro ⟨i, k, h1, h2, h3⟩
      rcases Nat.lt_succ_iff_lt_or_eq.1 h1 with h1 | rfl
      · exact .inl ⟨i, k, h1, h2, h3⟩
      · exact .inr ⟨k, h2, h3.symm⟩
set_option maxHeartbeats 2000000 in
theorem r19 (l : List Cn) : FnR Try.prog 19 [.c (Cns l)] [.c (.I (chkC l))] := by
  refine fn_walk code19 (by simp) ?_
  (repeat' (first | refine NextAt.mk (fun hc => ?_) (fun pre n v post hc hkey => ?_) | refine Sni.mk (fun hc => ?_) ?_ | refine Both.mk ?_ ?_ | refine AW_seq ?_ | refine AW_block ?_ | ((first | refine AW_reg ?_ | refine AW_cond ?_ | refine AW_skip ?_ | refine AW_exit ?_ | refine AW_ret ?_ | refine AW_regD (by kernel_rfl) ?_ | refine AW_regX (by kernel_rfl) ?_ | refine CallAtG.t (Eq.refl true) ?_ | refine CallAtG.f (Eq.refl false) ?_); try simp (disch := omega) only [go_sem, seval, reduceCtorEq, ↓reduceIte, beq_dec, Int.toNat_natCast, IntKind.signed, IntKind.bits]) | refine And.intro (fun hc => (?_ : AW _ _ _ _)) (fun hc => (?_ : AW _ _ _ _)) | simp (disch := omega) only [go_sem, seval, reduceCtorEq, ↓reduceIte, beq_dec, Int.toNat_natCast, IntKind.signed, IntKind.bits] | (refine And.intro ?_ ?_; focus (first | (intros; omega) | (intros; simp_all; done))) | refine And.intro (?_ : CallAt _ _ _ _ _ _ _ _) ?_ | refine And.intro (?_ : CallAt _ _ _ _ _ _ _ _ ∧ _) ?_ | refine And.intro (?_ : AW _ _ _ _) ?_ | fail))
  · unfold chkC; rw [if_pos (by omega)]
  · refine AW_loopK [0] [2, 3, 9, 10, 11, 12, 13, 14, 15, 16, 17, 18, 19, 20] (fun i : Nat => i ≤ l.length ∧ ∀ j, j < i → validS (nth l j) = true) (fun i => [(3, .I i)]) (fun _ => []) (fun i => l.length - i) 0 ⟨by omega, by omega⟩ ?_ ?_
    · simp (disch := omega) only [go_sem, seval, reduceCtorEq, ↓reduceIte, beq_dec, Int.toNat_natCast, IntKind.signed, IntKind.bits, Int.natCast_zero]
    · rintro i ⟨hi, hv⟩
      (repeat' (first | refine NextAt.mk (fun hc => ?_) (fun pre n v post hc hkey => ?_) | refine Sni.mk (fun hc => ?_) ?_ | refine Both.mk ?_ ?_ | refine AW_seq ?_ | refine AW_block ?_ | ((first | refine AW_reg ?_ | refine AW_cond ?_ | refine AW_skip ?_ | refine AW_exit ?_ | refine AW_ret ?_ | refine AW_regD (by kernel_rfl) ?_ | refine AW_regX (by kernel_rfl) ?_ | refine CallAtG.t (Eq.refl true) ?_ | refine CallAtG.f (Eq.refl false) ?_ | refine CallAt.mk _ (r33 ..) (by first | (intro h; cases h; done) | (intro _; repeat' (first | exact List.forall_mem_nil _ | trivial | refine List.forall_mem_cons.2 ⟨?_, ?_⟩)) | (intro _; simp [RV.flatP, CD.flatP, getD_map Cn.cd, Cn.cd]; done)) ?_ | refine CallAtG.mk _ (fun _ => r33 ..) ?_ | refine CallDS.mk _ (by simp [RV.data]) (fun _ => r33 ..) (by first | (intro h; cases h; done) | (intro _; repeat' (first | exact List.forall_mem_nil _ | trivial | refine List.forall_mem_cons.2 ⟨?_, ?_⟩)) | (intro _; simp [RV.flatP, CD.flatP, getD_map Cn.cd, Cn.cd]; done)) ?_); try simp (disch := omega) only [go_sem, seval, reduceCtorEq, ↓reduceIte, beq_dec, Int.toNat_natCast, IntKind.signed, IntKind.bits, getD_map Cn.cd, Cn.cd]) | refine And.intro (fun hc => (?_ : AW _ _ _ _)) (fun hc => (?_ : AW _ _ _ _)) | simp (disch := omega) only [go_sem, seval, reduceCtorEq, ↓reduceIte, beq_dec, Int.toNat_natCast, IntKind.signed, IntKind.bits, getD_map Cn.cd, Cn.cd] | (refine And.intro ?_ ?_; focus (first | (intros; omega) | (intros; simp_all; done))) | refine And.intro (?_ : CallAt _ _ _ _ _ _ _ _) ?_ | refine And.intro (?_ : CallAt _ _ _ _ _ _ _ _ ∧ _) ?_ | refine And.intro (?_ : AW _ _ _ _) ?_ | fail))
      · unfold chkC
        rw [if_neg (by omega), if_neg]
        intro h
        rw [List.all_eq_true] at h
        have := h (nth l i) (nth_mem l i (by omega))
        rw [hc] at this; cases this
      · refine .mk (i + 1) ⟨by omega, fun j hj => ?_⟩ (by omega) ?_
        · rcases Nat.lt_succ_iff_lt_or_eq.1 hj with h | rfl
          · exact hv j h
          · exact hc
        · simp (disch := omega) only [go_sem, seval, reduceCtorEq, ↓reduceIte, beq_dec, Int.toNat_natCast, IntKind.signed, IntKind.bits, Int.natCast_add, Int.natCast_one]
      have hil : i = l.length := by omega
      subst hil
      have hall : l.all validS = true := all_nth hv
      refine AW_loopK [0] [2, 4, 5, 21, 22, 23, 24, 25, 26, 27, 28, 29, 30, 31, 32, 33, 34, 35, 36, 37, 38, 39, 40, 41, 42] (fun i : Nat => i ≤ l.length ∧ ∀ a b, a < i → b < a → (nth l a).id ≠ (nth l b).id) (fun i => [(4, .I i)]) (fun _ => []) (fun i => l.length - i) 0 ⟨by omega, by omega⟩ ?_ ?_
      · simp (disch := omega) only [go_sem, seval, reduceCtorEq, ↓reduceIte, beq_dec, Int.toNat_natCast, IntKind.signed, IntKind.bits, Int.natCast_zero]
      · rintro i ⟨hi2, hd⟩
        (repeat' (first | refine NextAt.mk (fun hc => ?_) (fun pre n v post hc hkey => ?_) | refine Sni.mk (fun hc => ?_) ?_ | refine Both.mk ?_ ?_ | refine AW_seq ?_ | refine AW_block ?_ | ((first | refine AW_reg ?_ | refine AW_cond ?_ | refine AW_skip ?_ | refine AW_exit ?_ | refine AW_ret ?_ | refine AW_regD (by kernel_rfl) ?_ | refine AW_regX (by kernel_rfl) ?_ | refine CallAtG.t (Eq.refl true) ?_ | refine CallAtG.f (Eq.refl false) ?_); try simp (disch := omega) only [go_sem, seval, reduceCtorEq, ↓reduceIte, beq_dec, Int.toNat_natCast, IntKind.signed, IntKind.bits]) | refine And.intro (fun hc => (?_ : AW _ _ _ _)) (fun hc => (?_ : AW _ _ _ _)) | simp (disch := omega) only [go_sem, seval, reduceCtorEq, ↓reduceIte, beq_dec, Int.toNat_natCast, IntKind.signed, IntKind.bits] | (refine And.intro ?_ ?_; focus (first | (intros; omega) | (intros; simp_all; done))) | refine And.intro (?_ : CallAt _ _ _ _ _ _ _ _) ?_ | refine And.intro (?_ : CallAt _ _ _ _ _ _ _ _ ∧ _) ?_ | refine And.intro (?_ : AW _ _ _ _) ?_ | fail))
        · refine AW_loopK [0, 4] [2, 5, 27, 28, 29, 30, 31, 32, 33, 34, 35, 36, 37, 38, 39, 40, 41, 42] (fun k : Nat => k ≤ i ∧ ∀ b, b < k → (nth l i).id ≠ (nth l b).id) (fun k => [(5, .I k)]) (fun _ => []) (fun k => i - k) 0 ⟨by omega, by omega⟩ ?_ ?_
          · simp (disch := omega) only [go_sem, seval, reduceCtorEq, ↓reduceIte, beq_dec, Int.toNat_natCast, IntKind.signed, IntKind.bits, Int.natCast_zero]
          · rintro k ⟨hk, hq⟩
            (repeat' (first | refine NextAt.mk (fun hc => ?_) (fun pre n v post hc hkey => ?_) | refine Sni.mk (fun hc => ?_) ?_ | refine Both.mk ?_ ?_ | refine AW_seq ?_ | refine AW_block ?_ | ((first | refine AW_reg ?_ | refine AW_cond ?_ | refine AW_skip ?_ | refine AW_exit ?_ | refine AW_ret ?_ | refine AW_regD (by kernel_rfl) ?_ | refine AW_regX (by kernel_rfl) ?_ | refine CallAtG.t (Eq.refl true) ?_ | refine CallAtG.f (Eq.refl false) ?_); try simp (disch := omega) only [go_sem, seval, reduceCtorEq, ↓reduceIte, beq_dec, Int.toNat_natCast, IntKind.signed, IntKind.bits, getD_map Cn.cd, Cn.cd]) | refine And.intro (fun hc => (?_ : AW _ _ _ _)) (fun hc => (?_ : AW _ _ _ _)) | simp (disch := omega) only [go_sem, seval, reduceCtorEq, ↓reduceIte, beq_dec, Int.toNat_natCast, IntKind.signed, IntKind.bits, getD_map Cn.cd, Cn.cd] | (refine And.intro ?_ ?_; focus (first | (intros; omega) | (intros; simp_all; done))) | refine And.intro (?_ : CallAt _ _ _ _ _ _ _ _) ?_ | refine And.intro (?_ : CallAt _ _ _ _ _ _ _ _ ∧ _) ?_ | refine And.intro (?_ : AW _ _ _ _) ?_ | refine And.intro (?_ : _ ∧ _) ?_ | fail))
            · unfold chkC
              rw [if_neg (by omega), if_pos hall, if_pos ((twiceC_iff l _).2 ⟨i, k, by omega, by omega, by assumption⟩)]
            · refine .mk (k + 1) ⟨by omega, fun b hb => ?_⟩ (by omega) ?_
              · rcases Nat.lt_succ_iff_lt_or_eq.1 hb with h | rfl
                · exact hq b h
                · assumption
              · simp (disch := omega) only [go_sem, seval, reduceCtorEq, ↓reduceIte, beq_dec, Int.toNat_natCast, IntKind.signed, IntKind.bits, Int.natCast_add, Int.natCast_one]
            · refine .mk (i + 1) ⟨by omega, fun a b ha hb => ?_⟩ (by omega) ?_
              · rcases Nat.lt_succ_iff_lt_or_eq.1 ha with h | rfl
                · exact hd a b h hb
                · exact hq b (by omega)
              · simp (disch := omega) only [go_sem, seval, reduceCtorEq, ↓reduceIte, beq_dec, Int.toNat_natCast, IntKind.signed, IntKind.bits, Int.natCast_add, Int.natCast_one]
        · obtain rfl : i = l.length := by omega
          unfold chkC
          rw [if_neg (by omega), if_pos hall, if_neg]
          intro h
          obtain ⟨a, b, h1, h2, h3⟩ := (twiceC_iff l _).1 h
          exact hd a b h1 h2 h3
end Go.Proofs.Ytddhinbiahcjlaa

