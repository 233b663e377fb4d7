/-
  Lemmas for the proof: no statement of its own.
-/
import Derived.Test.YtggcpnnmmcnogaaWalkD
set_option linter.unusedVariables false
set_option linter.unusedSimpArgs false
-- P p_b.txt
open Go Go.AL Go.RowKit
namespace Go.Proofs.Ytggcpnnmmcnogaa
set_option maxRecDepth 20000
/- slices.Clone[[]int,int] -/
abbrev c17_1 : AC := .reg [⟨(some 2), .mv (.k (.c .nil)), none⟩] false
abbrev c17_2 : AC := .reg [⟨(some 3), .mv (.t 0), none⟩,
  ⟨(some 4), .isnil false (.t 3), none⟩] false
abbrev c17_3 : AC := .reg [⟨(some 2), .mv (.k (.c .nil)), none⟩] false
abbrev c17_4 : AC := .seq c17_3 .ret
abbrev c17_5 : AC := .cond (.t 4) c17_4 .skip
abbrev c17_6 : AC := .seq c17_2 c17_5
abbrev c17_7 : AC := .reg [⟨(some 5), .bslice 3 1 [], none⟩,
  ⟨(some 6), .mv (.t 0), none⟩,
  ⟨(some 7), .app 3 1 8 (.t 5) (.t 6), none⟩,
  ⟨(some 2), .mv (.t 7), none⟩] false
abbrev c17_8 : AC := .seq c17_7 .ret
abbrev c17_9 : AC := .seq c17_6 c17_8
abbrev c17_10 : AC := .seq c17_1 c17_9
abbrev c17 : AC := c17_10
theorem code17 : fnCode Try.prog 17 = some (c17, [2], 8) := by kernel_rfl
/- coinage/coloring.Clique$1$1 -/
abbrev c19_1 : AC := .reg [⟨(some 4), .mv (.k (.B false)), none⟩] false
abbrev c19_2 : AC := .reg [⟨(some 5), .ld none (.t 1), none⟩,
  ⟨(some 6), .ld none (.t 2), none⟩,
  ⟨(some 7), .iad 1 (.t 5) (.t 6), none⟩,
  ⟨(some 8), .ld none (.t 7), none⟩,
  ⟨(some 9), .mv (.t 0), none⟩,
  ⟨(some 10), .call 20 [(.t 8), (.t 9)], none⟩,
  ⟨(some 11), .not (.t 10), none⟩,
  ⟨(some 4), .mv (.t 11), none⟩] false
abbrev c19_3 : AC := .seq c19_2 .ret
abbrev c19_4 : AC := .seq c19_1 c19_3
abbrev c19 : AC := c19_4
theorem code19 : fnCode Try.prog 19 = some (c19, [4], 12) := by kernel_rfl
/- coinage/coloring.Clique$1 -/
abbrev c16_1 : AC := .reg [⟨(some 9), .mv (.t 0), none⟩,
  ⟨(some 10), .len (.t 9), none⟩,
  ⟨(some 11), .ld none (.t 2), none⟩,
  ⟨(some 12), .len (.t 11), none⟩,
  ⟨(some 13), .bin .gtr (.t 10) (.t 12), none⟩] false
abbrev c16_2 : AC := .reg [⟨(some 14), .mv (.t 0), none⟩,
  ⟨(some 15), .call 17 [(.t 14)], none⟩,
  ⟨none, .st none (.t 2) (.t 15), none⟩] false
abbrev c16_3 : AC := .cond (.t 13) c16_2 .skip
abbrev c16_4 : AC := .seq c16_1 c16_3
abbrev c16_5 : AC := .reg [⟨(some 16), .mv (.t 1), none⟩,
  ⟨(some 8), .alloc 3 [(.I 0)], none⟩,
  ⟨none, .st none (.t 8) (.t 16), none⟩] false
abbrev c16_6 : AC := .reg [⟨(some 17), .ld none (.t 8), none⟩,
  ⟨(some 18), .ld none (.t 3), none⟩,
  ⟨(some 19), .bin .lss (.t 17) (.t 18), none⟩] false
abbrev c16_7 : AC := .cond (.t 19) .skip (.exit 0)
abbrev c16_8 : AC := .seq c16_6 c16_7
abbrev c16_9 : AC := .reg [⟨(some 22), .mv (.t 0), none⟩,
  ⟨(some 23), .mkfn 19 [(.t 4), (.t 8)], none⟩,
  ⟨(some 24), .call 18 [(.t 22), (.t 23)], none⟩,
  ⟨(some 25), .not (.t 24), none⟩] false
def c16_10L : List AP := [⟨(some 26), .ld none (.t 5), none⟩,
  ⟨(some 27), .mv (.t 0), none⟩,
  ⟨(some 28), .mv (.t 0), none⟩,
  ⟨(some 29), .len (.t 28), none⟩,
  ⟨(some 30), .mv (.t 0), none⟩,
  ⟨(some 31), .len (.t 30), none⟩,
  ⟨(some 32), .slc3 1 (.t 27) (.t 29) (.t 31), none⟩,
  ⟨(some 33), .ld none (.t 8), none⟩,
  ⟨(some 34), .bslice 3 1 [(.t 33)], none⟩,
  ⟨(some 35), .app 3 1 8 (.t 32) (.t 34), none⟩,
  ⟨(some 36), .ld none (.t 8), none⟩,
  ⟨(some 37), .bin .add (.t 36) (.k (.I 1)), none⟩,
  ⟨(some 38), .callv (.t 26) [(.t 35), (.t 37)], none⟩]
abbrev c16_10 : AC := .regG c16_10L [0, 0, 0, 4, 0, 16, 42, 0, 128, 320, 0, 1024, 2561] [0, 0, 0, 4, 0, 16, 42, 0, 128, 320, 0, 1024, 2561]
abbrev c16_11 : AC := .cond (.t 25) c16_10 .skip
abbrev c16_12 : AC := .seq c16_9 c16_11
abbrev c16_13 : AC := .block 1 c16_12
abbrev c16_14 : AC := .reg [⟨(some 39), .ld none (.t 8), none⟩] false
abbrev c16_15 : AC := .reg [⟨(some 8), .alloc 3 [(.I 0)], none⟩,
  ⟨none, .st none (.t 8) (.t 39), none⟩] false
abbrev c16_16 : AC := .seq c16_14 c16_15
abbrev c16_17 : AC := .reg [⟨(some 20), .ld none (.t 8), none⟩,
  ⟨(some 21), .bin .add (.t 20) (.k (.I 1)), none⟩,
  ⟨none, .st none (.t 8) (.t 21), none⟩] false
abbrev c16_18 : AC := .seq c16_16 c16_17
abbrev c16_19 : AC := .seq c16_13 c16_18
abbrev c16_20 : AC := .seq c16_8 c16_19
abbrev c16_21 : AC := .loop c16_20
abbrev c16_22 : AC := .block 0 c16_21
abbrev c16_23 : AC := .seq c16_5 c16_22
abbrev c16_24 : AC := .seq c16_4 c16_23
abbrev c16 : AC := c16_24
theorem code16 : fnCode Try.prog 16 = some (c16, [], 40) := by kernel_rfl
/- coinage/coloring.Clique -/
abbrev c8_1 : AC := .reg [⟨(some 2), .box 3 none (.t 0), none⟩,
  ⟨(some 4), .mv (.k (.c .nil)), none⟩,
  ⟨(some 5), .mv (.k (.I 0)), none⟩] false
abbrev c8_2 : AC := .reg [⟨(some 9), .ld none (.t 2), none⟩,
  ⟨(some 10), .mv (.t 1), none⟩,
  ⟨(some 11), .call 13 [(.t 9), (.t 10)], none⟩,
  ⟨(some 12), .not (.t 11), none⟩] false
abbrev c8_3 : AC := .reg [⟨(some 4), .mv (.k (.c .nil)), none⟩,
  ⟨(some 5), .mv (.k (.I 1)), none⟩] false
abbrev c8_4 : AC := .seq c8_3 .ret
abbrev c8_5 : AC := .cond (.t 12) c8_4 .skip
abbrev c8_6 : AC := .seq c8_2 c8_5
abbrev c8_7 : AC := .reg [⟨(some 13), .ld none (.t 2), none⟩,
  ⟨(some 14), .mv (.t 1), none⟩,
  ⟨(some 15), .call 15 [(.t 13), (.t 14)], none⟩,
  ⟨(some 6), .alloc 48 [(.c .nil)], none⟩,
  ⟨none, .st none (.t 6) (.t 15), none⟩] false
abbrev c8_8 : AC := .reg [⟨(some 7), .alloc 31 [(.c .nil)], none⟩] false
abbrev c8_9 : AC := .reg [⟨(some 8), .alloc 50 [.any], none⟩] false
abbrev c8_10 : AC := .reg [⟨(some 16), .mkfn 16 [(.t 7), (.t 2), (.t 6), (.t 8)], none⟩,
  ⟨none, .st none (.t 8) (.t 16), none⟩] false
abbrev c8_11 : AC := .reg [⟨(some 17), .ld none (.t 8), none⟩,
  ⟨(some 18), .callv (.t 17) [(.k (.c .nil)), (.k (.I 0))], none⟩] false
abbrev c8_12 : AC := .reg [⟨(some 19), .ld none (.t 7), none⟩,
  ⟨(some 4), .mv (.t 19), none⟩,
  ⟨(some 5), .mv (.k (.I 0)), none⟩] false
abbrev c8_13 : AC := .seq c8_12 .ret
abbrev c8_14 : AC := .seq c8_11 c8_13
abbrev c8_15 : AC := .seq c8_10 c8_14
abbrev c8_16 : AC := .seq c8_9 c8_15
abbrev c8_17 : AC := .seq c8_8 c8_16
abbrev c8_18 : AC := .seq c8_7 c8_17
abbrev c8_19 : AC := .seq c8_6 c8_18
abbrev c8_20 : AC := .seq c8_1 c8_19
abbrev c8 : AC := c8_20
theorem code8 : fnCode Try.prog 8 = some (c8, [4, 5], 20) := by kernel_rfl

theorem x20 (l : List Nat) (hl : l.length ≤ 1000) (x : Nat) : FnR Try.prog 20 [.c (NR l), .I (x : Int)] [.c (.B (decide (x ∈ l)))] := by
  have hmem : decide (x ∈ l) = l.any fun u => decide (u = x) := by
    rw [Bool.eq_iff_iff, decide_eq_true_eq, List.any_eq_true]
    constructor
    · intro h; exact ⟨x, h, by simp⟩
    · rintro ⟨u, h1, h2⟩
      have : u = x := by simpa using h2
      exact this ▸ h1
  rw [hmem]
  rcases first_at (fun u => decide (u = x)) l with ⟨h1, h2⟩ | ⟨h1, k, h2, h3, h4⟩
  · rw [h1]
    have g27 : FnR Try.prog 27 [.c (NR l), .I (x : Int)] [.c (.I (-1))] := by
      refine fn_walk code27 (by simp) ?_
      (repeat' (first | refine NextAt.mk (fun hc => ?_) (fun pre n v post hc hkey => ?_) | refine Sni.mk (fun hc => ?_) ?_ | refine Both.mk ?_ ?_ | refine AW_seq ?_ | refine AW_block ?_ | ((first | refine AW_reg ?_ | refine AW_cond ?_ | refine AW_skip ?_ | refine AW_exit ?_ | refine AW_ret ?_ | refine AW_regD (by kernel_rfl) ?_ | refine AW_regX (by kernel_rfl) ?_ | refine CallAtG.t (Eq.refl true) ?_ | refine CallAtG.f (Eq.refl false) ?_); try simp (disch := omega) only [go_sem, seval, reduceCtorEq, ↓reduceIte, beq_dec, Int.toNat_natCast, IntKind.signed, IntKind.bits]) | refine And.intro (fun hc => (?_ : AW _ _ _ _)) (fun hc => (?_ : AW _ _ _ _)) | simp (disch := omega) only [go_sem, seval, reduceCtorEq, ↓reduceIte, beq_dec, Int.toNat_natCast, IntKind.signed, IntKind.bits] | (refine And.intro ?_ ?_; focus (first | (intros; omega) | (intros; simp_all; done))) | refine And.intro (?_ : CallAt _ _ _ _ _ _ _ _) ?_ | refine And.intro (?_ : CallAt _ _ _ _ _ _ _ _ ∧ _) ?_ | refine And.intro (?_ : AW _ _ _ _) ?_ | fail))
      refine AW_loopK [0, 1, 7] [4, 5, 8, 9, 10, 11, 12, 13, 14, 15, 16, 17, 18] (fun i : Nat => i ≤ l.length) (fun i => [(8, .I i)]) (fun _ => []) (fun i => l.length - i) 0 (by omega) ?_ ?_
      · simp (disch := omega) only [go_sem, seval, reduceCtorEq, ↓reduceIte, beq_dec, Int.toNat_natCast, IntKind.signed, IntKind.bits, Int.natCast_zero]
      · intro i hi
        rcases Nat.lt_or_ge i l.length with hil | hil
        · have hq := h2 i hil
          simp only [decide_eq_false_iff_not] at hq
          have hge := getD_map nc l i [] hil
          have hkk : ((i : Int) < (l.length : Int)) = True := eq_true (by omega)
          have hne : (((nth l i : Nat) : Int) = (x : Int)) = False := eq_false (by omega)
          have hne' : ((x : Int) = ((nth l i : Nat) : Int)) = False := eq_false (by omega)
          (repeat' (first | refine NextAt.mk (fun hc => ?_) (fun pre n v post hc hkey => ?_) | refine Sni.mk (fun hc => ?_) ?_ | refine Both.mk ?_ ?_ | refine AW_seq ?_ | refine AW_block ?_ | ((first | refine AW_reg ?_ | refine AW_cond ?_ | refine AW_skip ?_ | refine AW_exit ?_ | refine AW_ret ?_ | refine AW_regD (by kernel_rfl) ?_ | refine AW_regX (by kernel_rfl) ?_ | refine CallAtG.t (Eq.refl true) ?_ | refine CallAtG.f (Eq.refl false) ?_); try simp (disch := omega) only [go_sem, seval, reduceCtorEq, ↓reduceIte, beq_dec, Int.toNat_natCast, IntKind.signed, IntKind.bits, hge, nc, Int.toNat_natCast, List.length_map, hkk, hne, hne']) | refine And.intro (fun hc => (?_ : AW _ _ _ _)) (fun hc => (?_ : AW _ _ _ _)) | simp (disch := omega) only [go_sem, seval, reduceCtorEq, ↓reduceIte, beq_dec, Int.toNat_natCast, IntKind.signed, IntKind.bits, hge, nc, Int.toNat_natCast, List.length_map, hkk, hne, hne'] | (refine And.intro ?_ ?_; focus (first | (intros; omega) | (intros; simp_all; done))) | refine And.intro (?_ : CallAt _ _ _ _ _ _ _ _) ?_ | refine And.intro (?_ : CallAt _ _ _ _ _ _ _ _ ∧ _) ?_ | refine And.intro (?_ : AW _ _ _ _) ?_ | fail))
          refine .mk (i + 1) (by omega) (by omega) ?_
          simp (disch := omega) only [go_sem, seval, reduceCtorEq, ↓reduceIte, beq_dec, Int.toNat_natCast, IntKind.signed, IntKind.bits, Int.natCast_add, Int.natCast_one]
        · obtain rfl : i = l.length := by omega
          have hkk : ((l.length : Int) < (l.length : Int)) = False := eq_false (by omega)
          (repeat' (first | refine NextAt.mk (fun hc => ?_) (fun pre n v post hc hkey => ?_) | refine Sni.mk (fun hc => ?_) ?_ | refine Both.mk ?_ ?_ | refine AW_seq ?_ | refine AW_block ?_ | ((first | refine AW_reg ?_ | refine AW_cond ?_ | refine AW_skip ?_ | refine AW_exit ?_ | refine AW_ret ?_ | refine AW_regD (by kernel_rfl) ?_ | refine AW_regX (by kernel_rfl) ?_ | refine CallAtG.t (Eq.refl true) ?_ | refine CallAtG.f (Eq.refl false) ?_); try simp (disch := omega) only [go_sem, seval, reduceCtorEq, ↓reduceIte, beq_dec, Int.toNat_natCast, IntKind.signed, IntKind.bits, List.length_map, hkk]) | refine And.intro (fun hc => (?_ : AW _ _ _ _)) (fun hc => (?_ : AW _ _ _ _)) | simp (disch := omega) only [go_sem, seval, reduceCtorEq, ↓reduceIte, beq_dec, Int.toNat_natCast, IntKind.signed, IntKind.bits, List.length_map, hkk] | (refine And.intro ?_ ?_; focus (first | (intros; omega) | (intros; simp_all; done))) | refine And.intro (?_ : CallAt _ _ _ _ _ _ _ _) ?_ | refine And.intro (?_ : CallAt _ _ _ _ _ _ _ _ ∧ _) ?_ | refine And.intro (?_ : AW _ _ _ _) ?_ | fail))
    refine fn_walk code20 (by simp) ?_
    (repeat' (first | refine NextAt.mk (fun hc => ?_) (fun pre n v post hc hkey => ?_) | refine Sni.mk (fun hc => ?_) ?_ | refine Both.mk ?_ ?_ | refine AW_seq ?_ | refine AW_block ?_ | ((first | refine AW_reg ?_ | refine AW_cond ?_ | refine AW_skip ?_ | refine AW_exit ?_ | refine AW_ret ?_ | refine AW_regD (by kernel_rfl) ?_ | refine AW_regX (by kernel_rfl) ?_ | refine CallAtG.t (Eq.refl true) ?_ | refine CallAtG.f (Eq.refl false) ?_ | refine CallAt.mk _ (g27 ..) (by first | (intro h; cases h; done) | (intro _; repeat' (first | exact List.forall_mem_nil _ | trivial | refine List.forall_mem_cons.2 ⟨?_, ?_⟩)) | (intro _; simp [RV.flatP, CD.flatP]; done)) ?_ | refine CallAtG.mk _ (fun _ => g27 ..) ?_ | refine CallDS.mk _ (by simp [RV.data]) (fun _ => g27 ..) (by first | (intro h; cases h; done) | (intro _; repeat' (first | exact List.forall_mem_nil _ | trivial | refine List.forall_mem_cons.2 ⟨?_, ?_⟩)) | (intro _; simp [RV.flatP, CD.flatP]; done)) ?_); try simp (disch := omega) only [go_sem, seval, reduceCtorEq, ↓reduceIte, beq_dec, Int.toNat_natCast, IntKind.signed, IntKind.bits]) | refine And.intro (fun hc => (?_ : AW _ _ _ _)) (fun hc => (?_ : AW _ _ _ _)) | simp (disch := omega) only [go_sem, seval, reduceCtorEq, ↓reduceIte, beq_dec, Int.toNat_natCast, IntKind.signed, IntKind.bits] | (refine And.intro ?_ ?_; focus (first | (intros; omega) | (intros; simp_all; done))) | refine And.intro (?_ : CallAt _ _ _ _ _ _ _ _) ?_ | refine And.intro (?_ : CallAt _ _ _ _ _ _ _ _ ∧ _) ?_ | refine And.intro (?_ : AW _ _ _ _) ?_ | fail))
  · rw [h1]
    have g27 : FnR Try.prog 27 [.c (NR l), .I (x : Int)] [.c (.I (k : Int))] := by
      refine fn_walk code27 (by simp) ?_
      (repeat' (first | refine NextAt.mk (fun hc => ?_) (fun pre n v post hc hkey => ?_) | refine Sni.mk (fun hc => ?_) ?_ | refine Both.mk ?_ ?_ | refine AW_seq ?_ | refine AW_block ?_ | ((first | refine AW_reg ?_ | refine AW_cond ?_ | refine AW_skip ?_ | refine AW_exit ?_ | refine AW_ret ?_ | refine AW_regD (by kernel_rfl) ?_ | refine AW_regX (by kernel_rfl) ?_ | refine CallAtG.t (Eq.refl true) ?_ | refine CallAtG.f (Eq.refl false) ?_); try simp (disch := omega) only [go_sem, seval, reduceCtorEq, ↓reduceIte, beq_dec, Int.toNat_natCast, IntKind.signed, IntKind.bits]) | refine And.intro (fun hc => (?_ : AW _ _ _ _)) (fun hc => (?_ : AW _ _ _ _)) | simp (disch := omega) only [go_sem, seval, reduceCtorEq, ↓reduceIte, beq_dec, Int.toNat_natCast, IntKind.signed, IntKind.bits] | (refine And.intro ?_ ?_; focus (first | (intros; omega) | (intros; simp_all; done))) | refine And.intro (?_ : CallAt _ _ _ _ _ _ _ _) ?_ | refine And.intro (?_ : CallAt _ _ _ _ _ _ _ _ ∧ _) ?_ | refine And.intro (?_ : AW _ _ _ _) ?_ | fail))
      refine AW_loopK [0, 1, 7] [4, 5, 8, 9, 10, 11, 12, 13, 14, 15, 16, 17, 18] (fun i : Nat => i ≤ k) (fun i => [(8, .I i)]) (fun _ => []) (fun i => l.length - i) 0 (by omega) ?_ ?_
      · simp (disch := omega) only [go_sem, seval, reduceCtorEq, ↓reduceIte, beq_dec, Int.toNat_natCast, IntKind.signed, IntKind.bits, Int.natCast_zero]
      · intro i hi
        have hil : i < l.length := by omega
        have hge := getD_map nc l i [] hil
        have hkk : ((i : Int) < (l.length : Int)) = True := eq_true (by omega)
        rcases Nat.lt_or_ge i k with hik | hik
        · have hq := h4 i hik
          simp only [decide_eq_false_iff_not] at hq
          have hne : (((nth l i : Nat) : Int) = (x : Int)) = False := eq_false (by omega)
          have hne' : ((x : Int) = ((nth l i : Nat) : Int)) = False := eq_false (by omega)
          (repeat' (first | refine NextAt.mk (fun hc => ?_) (fun pre n v post hc hkey => ?_) | refine Sni.mk (fun hc => ?_) ?_ | refine Both.mk ?_ ?_ | refine AW_seq ?_ | refine AW_block ?_ | ((first | refine AW_reg ?_ | refine AW_cond ?_ | refine AW_skip ?_ | refine AW_exit ?_ | refine AW_ret ?_ | refine AW_regD (by kernel_rfl) ?_ | refine AW_regX (by kernel_rfl) ?_ | refine CallAtG.t (Eq.refl true) ?_ | refine CallAtG.f (Eq.refl false) ?_); try simp (disch := omega) only [go_sem, seval, reduceCtorEq, ↓reduceIte, beq_dec, Int.toNat_natCast, IntKind.signed, IntKind.bits, hge, nc, Int.toNat_natCast, List.length_map, hkk, hne, hne']) | refine And.intro (fun hc => (?_ : AW _ _ _ _)) (fun hc => (?_ : AW _ _ _ _)) | simp (disch := omega) only [go_sem, seval, reduceCtorEq, ↓reduceIte, beq_dec, Int.toNat_natCast, IntKind.signed, IntKind.bits, hge, nc, Int.toNat_natCast, List.length_map, hkk, hne, hne'] | (refine And.intro ?_ ?_; focus (first | (intros; omega) | (intros; simp_all; done))) | refine And.intro (?_ : CallAt _ _ _ _ _ _ _ _) ?_ | refine And.intro (?_ : CallAt _ _ _ _ _ _ _ _ ∧ _) ?_ | refine And.intro (?_ : AW _ _ _ _) ?_ | fail))
          refine .mk (i + 1) (by omega) (by omega) ?_
          simp (disch := omega) only [go_sem, seval, reduceCtorEq, ↓reduceIte, beq_dec, Int.toNat_natCast, IntKind.signed, IntKind.bits, Int.natCast_add, Int.natCast_one]
        · obtain rfl : i = k := by omega
          have hq : nth l i = x := by simpa using h3
          rw [hq] at hge
          (repeat' (first | refine NextAt.mk (fun hc => ?_) (fun pre n v post hc hkey => ?_) | refine Sni.mk (fun hc => ?_) ?_ | refine Both.mk ?_ ?_ | refine AW_seq ?_ | refine AW_block ?_ | ((first | refine AW_reg ?_ | refine AW_cond ?_ | refine AW_skip ?_ | refine AW_exit ?_ | refine AW_ret ?_ | refine AW_regD (by kernel_rfl) ?_ | refine AW_regX (by kernel_rfl) ?_ | refine CallAtG.t (Eq.refl true) ?_ | refine CallAtG.f (Eq.refl false) ?_); try simp (disch := omega) only [go_sem, seval, reduceCtorEq, ↓reduceIte, beq_dec, Int.toNat_natCast, IntKind.signed, IntKind.bits, hge, nc, Int.toNat_natCast, List.length_map, hkk]) | refine And.intro (fun hc => (?_ : AW _ _ _ _)) (fun hc => (?_ : AW _ _ _ _)) | simp (disch := omega) only [go_sem, seval, reduceCtorEq, ↓reduceIte, beq_dec, Int.toNat_natCast, IntKind.signed, IntKind.bits, hge, nc, Int.toNat_natCast, List.length_map, hkk] | (refine And.intro ?_ ?_; focus (first | (intros; omega) | (intros; simp_all; done))) | refine And.intro (?_ : CallAt _ _ _ _ _ _ _ _) ?_ | refine And.intro (?_ : CallAt _ _ _ _ _ _ _ _ ∧ _) ?_ | refine And.intro (?_ : AW _ _ _ _) ?_ | fail))
    refine fn_walk code20 (by simp) ?_
    (repeat' (first | refine NextAt.mk (fun hc => ?_) (fun pre n v post hc hkey => ?_) | refine Sni.mk (fun hc => ?_) ?_ | refine Both.mk ?_ ?_ | refine AW_seq ?_ | refine AW_block ?_ | ((first | refine AW_reg ?_ | refine AW_cond ?_ | refine AW_skip ?_ | refine AW_exit ?_ | refine AW_ret ?_ | refine AW_regD (by kernel_rfl) ?_ | refine AW_regX (by kernel_rfl) ?_ | refine CallAtG.t (Eq.refl true) ?_ | refine CallAtG.f (Eq.refl false) ?_ | refine CallAt.mk _ (g27 ..) (by first | (intro h; cases h; done) | (intro _; repeat' (first | exact List.forall_mem_nil _ | trivial | refine List.forall_mem_cons.2 ⟨?_, ?_⟩)) | (intro _; simp [RV.flatP, CD.flatP]; done)) ?_ | refine CallAtG.mk _ (fun _ => g27 ..) ?_ | refine CallDS.mk _ (by simp [RV.data]) (fun _ => g27 ..) (by first | (intro h; cases h; done) | (intro _; repeat' (first | exact List.forall_mem_nil _ | trivial | refine List.forall_mem_cons.2 ⟨?_, ?_⟩)) | (intro _; simp [RV.flatP, CD.flatP]; done)) ?_); try simp (disch := omega) only [go_sem, seval, reduceCtorEq, ↓reduceIte, beq_dec, Int.toNat_natCast, IntKind.signed, IntKind.bits]) | refine And.intro (fun hc => (?_ : AW _ _ _ _)) (fun hc => (?_ : AW _ _ _ _)) | simp (disch := omega) only [go_sem, seval, reduceCtorEq, ↓reduceIte, beq_dec, Int.toNat_natCast, IntKind.signed, IntKind.bits] | (refine And.intro ?_ ?_; focus (first | (intros; omega) | (intros; simp_all; done))) | refine And.intro (?_ : CallAt _ _ _ _ _ _ _ _) ?_ | refine And.intro (?_ : CallAt _ _ _ _ _ _ _ _ ∧ _) ?_ | refine And.intro (?_ : AW _ _ _ _) ?_ | fail))
    all_goals first | rfl | omega | (simp; done) | trace_state
theorem x19 (G : List (List Nat)) (v u : Nat) (hv : v < G.length) (hrow : (G.getD v []).length ≤ 1000) : FnR Try.prog 19 [.I (u : Int), .dptr [TN G], .dptr [.I (v : Int)]] [.c (.B (!decide (u ∈ G.getD v [])))] := by
  have g := x20 (G.getD v []) hrow u
  have hge : (G.map fun r => [NR r]).getD v [] = [NR (G.getD v [])] := getD_map (fun r : List Nat => [NR r]) G v [] hv
  generalize decide (u ∈ G.getD v []) = b at *
  refine fn_walk code19 (by simp) ?_
  (repeat' (first | refine NextAt.mk (fun hc => ?_) (fun pre n v post hc hkey => ?_) | refine Sni.mk (fun hc => ?_) ?_ | refine Both.mk ?_ ?_ | refine AW_seq ?_ | refine AW_block ?_ | ((first | refine AW_reg ?_ | refine AW_cond ?_ | refine AW_skip ?_ | refine AW_exit ?_ | refine AW_ret ?_ | refine AW_regD (by kernel_rfl) ?_ | refine AW_regX (by kernel_rfl) ?_ | refine CallAtG.t (Eq.refl true) ?_ | refine CallAtG.f (Eq.refl false) ?_ | refine CallAt.mk _ (g ..) (by first | (intro h; cases h; done) | (intro _; repeat' (first | exact List.forall_mem_nil _ | trivial | refine List.forall_mem_cons.2 ⟨?_, ?_⟩)) | (intro _; simp [RV.flatP, CD.flatP, hge, Int.toNat_natCast, List.length_map]; done)) ?_ | refine CallAtG.mk _ (fun _ => g ..) ?_ | refine CallDS.mk _ (by simp [RV.data]) (fun _ => g ..) (by first | (intro h; cases h; done) | (intro _; repeat' (first | exact List.forall_mem_nil _ | trivial | refine List.forall_mem_cons.2 ⟨?_, ?_⟩)) | (intro _; simp [RV.flatP, CD.flatP, hge, Int.toNat_natCast, List.length_map]; done)) ?_); try simp (disch := omega) only [go_sem, seval, reduceCtorEq, ↓reduceIte, beq_dec, Int.toNat_natCast, IntKind.signed, IntKind.bits, hge, Int.toNat_natCast, List.length_map]) | refine And.intro (fun hc => (?_ : AW _ _ _ _)) (fun hc => (?_ : AW _ _ _ _)) | simp (disch := omega) only [go_sem, seval, reduceCtorEq, ↓reduceIte, beq_dec, Int.toNat_natCast, IntKind.signed, IntKind.bits, hge, Int.toNat_natCast, List.length_map] | (refine And.intro ?_ ?_; focus (first | (intros; omega) | (intros; simp_all; done))) | refine And.intro (?_ : CallAt _ _ _ _ _ _ _ _) ?_ | refine And.intro (?_ : CallAt _ _ _ _ _ _ _ _ ∧ _) ?_ | refine And.intro (?_ : AW _ _ _ _) ?_ | fail))
theorem x17 (s : List Nat) (hs : s ≠ []) (hl : s.length ≤ 1000) : FnR Try.prog 17 [.c (NR s)] [.c (NR s)] := by
  refine fn_walk code17 (by simp) ?_
  (repeat' (first | refine NextAt.mk (fun hc => ?_) (fun pre n v post hc hkey => ?_) | refine Sni.mk (fun hc => ?_) ?_ | refine Both.mk ?_ ?_ | refine AW_seq ?_ | refine AW_block ?_ | ((first | refine AW_reg ?_ | refine AW_cond ?_ | refine AW_skip ?_ | refine AW_exit ?_ | refine AW_ret ?_ | refine AW_regD (by kernel_rfl) ?_ | refine AW_regX (by kernel_rfl) ?_ | refine CallAtG.t (Eq.refl true) ?_ | refine CallAtG.f (Eq.refl false) ?_); try simp (disch := omega) only [go_sem, seval, reduceCtorEq, ↓reduceIte, beq_dec, Int.toNat_natCast, IntKind.signed, IntKind.bits, List.length_map, maxLen]) | refine And.intro (fun hc => (?_ : AW _ _ _ _)) (fun hc => (?_ : AW _ _ _ _)) | simp (disch := omega) only [go_sem, seval, reduceCtorEq, ↓reduceIte, beq_dec, Int.toNat_natCast, IntKind.signed, IntKind.bits, List.length_map, maxLen] | (refine And.intro ?_ ?_; focus (first | (intros; omega) | (intros; simp_all; done))) | refine And.intro (?_ : CallAt _ _ _ _ _ _ _ _) ?_ | refine And.intro (?_ : CallAt _ _ _ _ _ _ _ _ ∧ _) ?_ | refine And.intro (?_ : AW _ _ _ _) ?_ | fail))
  all_goals exact absurd (List.map_eq_nil_iff.1 (by assumption)) hs
end Go.Proofs.Ytggcpnnmmcnogaa

-- P p_b.txt
open Go Go.AL Go.RowKit
namespace Go.Proofs.Ytggcpnnmmcnogaa
set_option maxRecDepth 20000
abbrev cap19 (G : List (List Nat)) (v : Nat) : AV := .fn 19 [.dptr [TN G], .dptr [.I (v : Int)]]
theorem okN_not (G : List (List Nat)) (set : List Nat) (v : Nat) : (set.any fun u => !decide (u ∈ G.getD v [])) = !okN G set v := by
  unfold okN
  rw [List.not_all_eq_any_not]
theorem x18q (G : List (List Nat)) (v : Nat) (hv : v < G.length) (hrow : (G.getD v []).length ≤ 1000) (l : List Nat) (hl : l.length ≤ 1000) : FnR Try.prog 18 [.c (NR l), cap19 G v] [.c (.B (!okN G l v))] := by
  rw [← okN_not]
  rcases first_at (fun u => !decide (u ∈ G.getD v [])) l with ⟨h1, h2⟩ | ⟨h1, k, h2, h3, h4⟩
  · rw [h1]
    have g26 : FnR Try.prog 26 [.c (NR l), cap19 G v] [.c (.I (-1))] := by
      refine fn_walk code26 (by simp) ?_
      (repeat' (first | refine NextAt.mk (fun hc => ?_) (fun pre n v post hc hkey => ?_) | refine Sni.mk (fun hc => ?_) ?_ | refine Both.mk ?_ ?_ | refine AW_seq ?_ | refine AW_block ?_ | ((first | refine AW_reg ?_ | refine AW_cond ?_ | refine AW_skip ?_ | refine AW_exit ?_ | refine AW_ret ?_ | refine AW_regD (by kernel_rfl) ?_ | refine AW_regX (by kernel_rfl) ?_ | refine CallAtG.t (Eq.refl true) ?_ | refine CallAtG.f (Eq.refl false) ?_); try simp (disch := omega) only [go_sem, seval, reduceCtorEq, ↓reduceIte, beq_dec, Int.toNat_natCast, IntKind.signed, IntKind.bits]) | refine And.intro (fun hc => (?_ : AW _ _ _ _)) (fun hc => (?_ : AW _ _ _ _)) | simp (disch := omega) only [go_sem, seval, reduceCtorEq, ↓reduceIte, beq_dec, Int.toNat_natCast, IntKind.signed, IntKind.bits] | (refine And.intro ?_ ?_; focus (first | (intros; omega) | (intros; simp_all; done))) | refine And.intro (?_ : CallAt _ _ _ _ _ _ _ _) ?_ | refine And.intro (?_ : CallAt _ _ _ _ _ _ _ _ ∧ _) ?_ | refine And.intro (?_ : AW _ _ _ _) ?_ | fail))
      refine AW_loopK [0, 1, 7] [4, 5, 8, 9, 10, 11, 12, 13, 14, 15, 16, 17, 18] (fun i : Nat => i ≤ l.length) (fun i => [(8, .I i)]) (fun _ => []) (fun i => l.length - i) 0 (by omega) ?_ ?_
      · simp (disch := omega) only [go_sem, seval, reduceCtorEq, ↓reduceIte, beq_dec, Int.toNat_natCast, IntKind.signed, IntKind.bits, Int.natCast_zero]
      · intro i hi
        rcases Nat.lt_or_ge i l.length with hil | hil
        · have g := x19 G v (nth l i) hv hrow
          rw [h2 i hil] at g
          have hge := getD_map nc l i [] hil
          have hkk : ((i : Int) < (l.length : Int)) = True := eq_true (by omega)
          (repeat' (first | refine NextAt.mk (fun hc => ?_) (fun pre n v post hc hkey => ?_) | refine Sni.mk (fun hc => ?_) ?_ | refine Both.mk ?_ ?_ | refine AW_seq ?_ | refine AW_block ?_ | ((first | refine AW_reg ?_ | refine AW_cond ?_ | refine AW_skip ?_ | refine AW_exit ?_ | refine AW_ret ?_ | refine AW_regD (by kernel_rfl) ?_ | refine AW_regX (by kernel_rfl) ?_ | refine CallAtG.t (Eq.refl true) ?_ | refine CallAtG.f (Eq.refl false) ?_ | refine CallAt.mk _ (g ..) (by first | (intro h; cases h; done) | (intro _; repeat' (first | exact List.forall_mem_nil _ | trivial | refine List.forall_mem_cons.2 ⟨?_, ?_⟩)) | (intro _; simp [RV.flatP, CD.flatP, hge, nc, Int.toNat_natCast, List.length_map, hkk]; done)) ?_ | refine CallAtG.mk _ (fun _ => g ..) ?_ | refine CallDS.mk _ (by simp [RV.data]) (fun _ => g ..) (by first | (intro h; cases h; done) | (intro _; repeat' (first | exact List.forall_mem_nil _ | trivial | refine List.forall_mem_cons.2 ⟨?_, ?_⟩)) | (intro _; simp [RV.flatP, CD.flatP, hge, nc, Int.toNat_natCast, List.length_map, hkk]; done)) ?_); try simp (disch := omega) only [go_sem, seval, reduceCtorEq, ↓reduceIte, beq_dec, Int.toNat_natCast, IntKind.signed, IntKind.bits, hge, nc, Int.toNat_natCast, List.length_map, hkk]) | refine And.intro (fun hc => (?_ : AW _ _ _ _)) (fun hc => (?_ : AW _ _ _ _)) | simp (disch := omega) only [go_sem, seval, reduceCtorEq, ↓reduceIte, beq_dec, Int.toNat_natCast, IntKind.signed, IntKind.bits, hge, nc, Int.toNat_natCast, List.length_map, hkk] | (refine And.intro ?_ ?_; focus (first | (intros; omega) | (intros; simp_all; done))) | refine And.intro (?_ : CallAt _ _ _ _ _ _ _ _) ?_ | refine And.intro (?_ : CallAt _ _ _ _ _ _ _ _ ∧ _) ?_ | refine And.intro (?_ : AW _ _ _ _) ?_ | fail))
          refine .mk (i + 1) (by omega) (by omega) ?_
          simp (disch := omega) only [go_sem, seval, reduceCtorEq, ↓reduceIte, beq_dec, Int.toNat_natCast, IntKind.signed, IntKind.bits, Int.natCast_add, Int.natCast_one]
        · obtain rfl : i = l.length := by omega
          have hkk : ((l.length : Int) < (l.length : Int)) = False := eq_false (by omega)
          (repeat' (first | refine NextAt.mk (fun hc => ?_) (fun pre n v post hc hkey => ?_) | refine Sni.mk (fun hc => ?_) ?_ | refine Both.mk ?_ ?_ | refine AW_seq ?_ | refine AW_block ?_ | ((first | refine AW_reg ?_ | refine AW_cond ?_ | refine AW_skip ?_ | refine AW_exit ?_ | refine AW_ret ?_ | refine AW_regD (by kernel_rfl) ?_ | refine AW_regX (by kernel_rfl) ?_ | refine CallAtG.t (Eq.refl true) ?_ | refine CallAtG.f (Eq.refl false) ?_); try simp (disch := omega) only [go_sem, seval, reduceCtorEq, ↓reduceIte, beq_dec, Int.toNat_natCast, IntKind.signed, IntKind.bits, List.length_map, hkk]) | refine And.intro (fun hc => (?_ : AW _ _ _ _)) (fun hc => (?_ : AW _ _ _ _)) | simp (disch := omega) only [go_sem, seval, reduceCtorEq, ↓reduceIte, beq_dec, Int.toNat_natCast, IntKind.signed, IntKind.bits, List.length_map, hkk] | (refine And.intro ?_ ?_; focus (first | (intros; omega) | (intros; simp_all; done))) | refine And.intro (?_ : CallAt _ _ _ _ _ _ _ _) ?_ | refine And.intro (?_ : CallAt _ _ _ _ _ _ _ _ ∧ _) ?_ | refine And.intro (?_ : AW _ _ _ _) ?_ | fail))
    refine fn_walk code18 (by simp) ?_
    (repeat' (first | refine NextAt.mk (fun hc => ?_) (fun pre n v post hc hkey => ?_) | refine Sni.mk (fun hc => ?_) ?_ | refine Both.mk ?_ ?_ | refine AW_seq ?_ | refine AW_block ?_ | ((first | refine AW_reg ?_ | refine AW_cond ?_ | refine AW_skip ?_ | refine AW_exit ?_ | refine AW_ret ?_ | refine AW_regD (by kernel_rfl) ?_ | refine AW_regX (by kernel_rfl) ?_ | refine CallAtG.t (Eq.refl true) ?_ | refine CallAtG.f (Eq.refl false) ?_ | refine CallAt.mk _ (g26 ..) (by first | (intro h; cases h; done) | (intro _; repeat' (first | exact List.forall_mem_nil _ | trivial | refine List.forall_mem_cons.2 ⟨?_, ?_⟩)) | (intro _; simp [RV.flatP, CD.flatP]; done)) ?_ | refine CallAtG.mk _ (fun _ => g26 ..) ?_ | refine CallDS.mk _ (by simp [RV.data]) (fun _ => g26 ..) (by first | (intro h; cases h; done) | (intro _; repeat' (first | exact List.forall_mem_nil _ | trivial | refine List.forall_mem_cons.2 ⟨?_, ?_⟩)) | (intro _; simp [RV.flatP, CD.flatP]; done)) ?_); try simp (disch := omega) only [go_sem, seval, reduceCtorEq, ↓reduceIte, beq_dec, Int.toNat_natCast, IntKind.signed, IntKind.bits]) | refine And.intro (fun hc => (?_ : AW _ _ _ _)) (fun hc => (?_ : AW _ _ _ _)) | simp (disch := omega) only [go_sem, seval, reduceCtorEq, ↓reduceIte, beq_dec, Int.toNat_natCast, IntKind.signed, IntKind.bits] | (refine And.intro ?_ ?_; focus (first | (intros; omega) | (intros; simp_all; done))) | refine And.intro (?_ : CallAt _ _ _ _ _ _ _ _) ?_ | refine And.intro (?_ : CallAt _ _ _ _ _ _ _ _ ∧ _) ?_ | refine And.intro (?_ : AW _ _ _ _) ?_ | fail))
  · rw [h1]
    have g26 : FnR Try.prog 26 [.c (NR l), cap19 G v] [.c (.I (k : Int))] := by
      refine fn_walk code26 (by simp) ?_
      (repeat' (first | refine NextAt.mk (fun hc => ?_) (fun pre n v post hc hkey => ?_) | refine Sni.mk (fun hc => ?_) ?_ | refine Both.mk ?_ ?_ | refine AW_seq ?_ | refine AW_block ?_ | ((first | refine AW_reg ?_ | refine AW_cond ?_ | refine AW_skip ?_ | refine AW_exit ?_ | refine AW_ret ?_ | refine AW_regD (by kernel_rfl) ?_ | refine AW_regX (by kernel_rfl) ?_ | refine CallAtG.t (Eq.refl true) ?_ | refine CallAtG.f (Eq.refl false) ?_); try simp (disch := omega) only [go_sem, seval, reduceCtorEq, ↓reduceIte, beq_dec, Int.toNat_natCast, IntKind.signed, IntKind.bits]) | refine And.intro (fun hc => (?_ : AW _ _ _ _)) (fun hc => (?_ : AW _ _ _ _)) | simp (disch := omega) only [go_sem, seval, reduceCtorEq, ↓reduceIte, beq_dec, Int.toNat_natCast, IntKind.signed, IntKind.bits] | (refine And.intro ?_ ?_; focus (first | (intros; omega) | (intros; simp_all; done))) | refine And.intro (?_ : CallAt _ _ _ _ _ _ _ _) ?_ | refine And.intro (?_ : CallAt _ _ _ _ _ _ _ _ ∧ _) ?_ | refine And.intro (?_ : AW _ _ _ _) ?_ | fail))
      refine AW_loopK [0, 1, 7] [4, 5, 8, 9, 10, 11, 12, 13, 14, 15, 16, 17, 18] (fun i : Nat => i ≤ k) (fun i => [(8, .I i)]) (fun _ => []) (fun i => l.length - i) 0 (by omega) ?_ ?_
      · simp (disch := omega) only [go_sem, seval, reduceCtorEq, ↓reduceIte, beq_dec, Int.toNat_natCast, IntKind.signed, IntKind.bits, Int.natCast_zero]
      · intro i hi
        have hil : i < l.length := by omega
        have g := x19 G v (nth l i) hv hrow
        have hge := getD_map nc l i [] hil
        have hkk : ((i : Int) < (l.length : Int)) = True := eq_true (by omega)
        rcases Nat.lt_or_ge i k with hik | hik
        · rw [h4 i hik] at g
          (repeat' (first | refine NextAt.mk (fun hc => ?_) (fun pre n v post hc hkey => ?_) | refine Sni.mk (fun hc => ?_) ?_ | refine Both.mk ?_ ?_ | refine AW_seq ?_ | refine AW_block ?_ | ((first | refine AW_reg ?_ | refine AW_cond ?_ | refine AW_skip ?_ | refine AW_exit ?_ | refine AW_ret ?_ | refine AW_regD (by kernel_rfl) ?_ | refine AW_regX (by kernel_rfl) ?_ | refine CallAtG.t (Eq.refl true) ?_ | refine CallAtG.f (Eq.refl false) ?_ | refine CallAt.mk _ (g ..) (by first | (intro h; cases h; done) | (intro _; repeat' (first | exact List.forall_mem_nil _ | trivial | refine List.forall_mem_cons.2 ⟨?_, ?_⟩)) | (intro _; simp [RV.flatP, CD.flatP, hge, nc, Int.toNat_natCast, List.length_map, hkk]; done)) ?_ | refine CallAtG.mk _ (fun _ => g ..) ?_ | refine CallDS.mk _ (by simp [RV.data]) (fun _ => g ..) (by first | (intro h; cases h; done) | (intro _; repeat' (first | exact List.forall_mem_nil _ | trivial | refine List.forall_mem_cons.2 ⟨?_, ?_⟩)) | (intro _; simp [RV.flatP, CD.flatP, hge, nc, Int.toNat_natCast, List.length_map, hkk]; done)) ?_); try simp (disch := omega) only [go_sem, seval, reduceCtorEq, ↓reduceIte, beq_dec, Int.toNat_natCast, IntKind.signed, IntKind.bits, hge, nc, Int.toNat_natCast, List.length_map, hkk]) | refine And.intro (fun hc => (?_ : AW _ _ _ _)) (fun hc => (?_ : AW _ _ _ _)) | simp (disch := omega) only [go_sem, seval, reduceCtorEq, ↓reduceIte, beq_dec, Int.toNat_natCast, IntKind.signed, IntKind.bits, hge, nc, Int.toNat_natCast, List.length_map, hkk] | (refine And.intro ?_ ?_; focus (first | (intros; omega) | (intros; simp_all; done))) | refine And.intro (?_ : CallAt _ _ _ _ _ _ _ _) ?_ | refine And.intro (?_ : CallAt _ _ _ _ _ _ _ _ ∧ _) ?_ | refine And.intro (?_ : AW _ _ _ _) ?_ | fail))
          refine .mk (i + 1) (by omega) (by omega) ?_
          simp (disch := omega) only [go_sem, seval, reduceCtorEq, ↓reduceIte, beq_dec, Int.toNat_natCast, IntKind.signed, IntKind.bits, Int.natCast_add, Int.natCast_one]
        · obtain rfl : i = k := by omega
          rw [h3] at g
          (repeat' (first | refine NextAt.mk (fun hc => ?_) (fun pre n v post hc hkey => ?_) | refine Sni.mk (fun hc => ?_) ?_ | refine Both.mk ?_ ?_ | refine AW_seq ?_ | refine AW_block ?_ | ((first | refine AW_reg ?_ | refine AW_cond ?_ | refine AW_skip ?_ | refine AW_exit ?_ | refine AW_ret ?_ | refine AW_regD (by kernel_rfl) ?_ | refine AW_regX (by kernel_rfl) ?_ | refine CallAtG.t (Eq.refl true) ?_ | refine CallAtG.f (Eq.refl false) ?_ | refine CallAt.mk _ (g ..) (by first | (intro h; cases h; done) | (intro _; repeat' (first | exact List.forall_mem_nil _ | trivial | refine List.forall_mem_cons.2 ⟨?_, ?_⟩)) | (intro _; simp [RV.flatP, CD.flatP, hge, nc, Int.toNat_natCast, List.length_map, hkk]; done)) ?_ | refine CallAtG.mk _ (fun _ => g ..) ?_ | refine CallDS.mk _ (by simp [RV.data]) (fun _ => g ..) (by first | (intro h; cases h; done) | (intro _; repeat' (first | exact List.forall_mem_nil _ | trivial | refine List.forall_mem_cons.2 ⟨?_, ?_⟩)) | (intro _; simp [RV.flatP, CD.flatP, hge, nc, Int.toNat_natCast, List.length_map, hkk]; done)) ?_); try simp (disch := omega) only [go_sem, seval, reduceCtorEq, ↓reduceIte, beq_dec, Int.toNat_natCast, IntKind.signed, IntKind.bits, hge, nc, Int.toNat_natCast, List.length_map, hkk]) | refine And.intro (fun hc => (?_ : AW _ _ _ _)) (fun hc => (?_ : AW _ _ _ _)) | simp (disch := omega) only [go_sem, seval, reduceCtorEq, ↓reduceIte, beq_dec, Int.toNat_natCast, IntKind.signed, IntKind.bits, hge, nc, Int.toNat_natCast, List.length_map, hkk] | (refine And.intro ?_ ?_; focus (first | (intros; omega) | (intros; simp_all; done))) | refine And.intro (?_ : CallAt _ _ _ _ _ _ _ _) ?_ | refine And.intro (?_ : CallAt _ _ _ _ _ _ _ _ ∧ _) ?_ | refine And.intro (?_ : AW _ _ _ _) ?_ | fail))
    refine fn_walk code18 (by simp) ?_
    (repeat' (first | refine NextAt.mk (fun hc => ?_) (fun pre n v post hc hkey => ?_) | refine Sni.mk (fun hc => ?_) ?_ | refine Both.mk ?_ ?_ | refine AW_seq ?_ | refine AW_block ?_ | ((first | refine AW_reg ?_ | refine AW_cond ?_ | refine AW_skip ?_ | refine AW_exit ?_ | refine AW_ret ?_ | refine AW_regD (by kernel_rfl) ?_ | refine AW_regX (by kernel_rfl) ?_ | refine CallAtG.t (Eq.refl true) ?_ | refine CallAtG.f (Eq.refl false) ?_ | refine CallAt.mk _ (g26 ..) (by first | (intro h; cases h; done) | (intro _; repeat' (first | exact List.forall_mem_nil _ | trivial | refine List.forall_mem_cons.2 ⟨?_, ?_⟩)) | (intro _; simp [RV.flatP, CD.flatP]; done)) ?_ | refine CallAtG.mk _ (fun _ => g26 ..) ?_ | refine CallDS.mk _ (by simp [RV.data]) (fun _ => g26 ..) (by first | (intro h; cases h; done) | (intro _; repeat' (first | exact List.forall_mem_nil _ | trivial | refine List.forall_mem_cons.2 ⟨?_, ?_⟩)) | (intro _; simp [RV.flatP, CD.flatP]; done)) ?_); try simp (disch := omega) only [go_sem, seval, reduceCtorEq, ↓reduceIte, beq_dec, Int.toNat_natCast, IntKind.signed, IntKind.bits]) | refine And.intro (fun hc => (?_ : AW _ _ _ _)) (fun hc => (?_ : AW _ _ _ _)) | simp (disch := omega) only [go_sem, seval, reduceCtorEq, ↓reduceIte, beq_dec, Int.toNat_natCast, IntKind.signed, IntKind.bits] | (refine And.intro ?_ ?_; focus (first | (intros; omega) | (intros; simp_all; done))) | refine And.intro (?_ : CallAt _ _ _ _ _ _ _ _) ?_ | refine And.intro (?_ : CallAt _ _ _ _ _ _ _ _ ∧ _) ?_ | refine And.intro (?_ : AW _ _ _ _) ?_ | fail))
    all_goals first | rfl | omega | (simp; done) | trace_state
abbrev vG : AV := .fn 16 [.ptr 1000007 0, .ptr 1000002 0, .ptr 1000006 0, .ptr 1000008 0]
abbrev obG (G : List (List Nat)) (n : Nat) (L : List Nat) : List (Nat × AO) := [(1000007, .box 31 [.c (NR L)]), (1000002, .box 3 [.I (n : Int)]), (1000006, .box 48 [.c (TN G)]), (1000008, .box 50 [vG])]
def gwT10 (G : List (List Nat)) (n : Nat) (L set : List Nat) (v : Nat) : St := ⟨40, [(0, .c (NR set)), (3, .ptr 1000002 0), (4, .ptr 1000006 0), (5, .ptr 1000008 0), (8, .ptr 8 0), (26, vG), (32, .full 1 (set.map nc))], [(8, .box 3 [.I (v : Int)]), (1000007, .box 31 [.c (NR L)]), (1000002, .box 3 [.I (n : Int)]), (1000006, .box 48 [.c (TN G)]), (1000008, .box 50 [vG])]⟩
def gwT11 (G : List (List Nat)) (n : Nat) (L set : List Nat) (v : Nat) : St := ⟨40, [(0, .c (NR set)), (3, .ptr 1000002 0), (4, .ptr 1000006 0), (5, .ptr 1000008 0), (8, .ptr 8 0), (26, vG), (27, .c (NR set)), (29, .I set.length), (31, .I set.length), (33, .I (v : Int))], [(8, .box 3 [.I (v : Int)]), (1000007, .box 31 [.c (NR L)]), (1000002, .box 3 [.I (n : Int)]), (1000006, .box 48 [.c (TN G)]), (1000008, .box 50 [vG])]⟩
def gwT13 (G : List (List Nat)) (n : Nat) (L set : List Nat) (v : Nat) : St := ⟨40, [(0, .c (NR set)), (3, .ptr 1000002 0), (4, .ptr 1000006 0), (5, .ptr 1000008 0), (8, .ptr 8 0), (32, .full 1 (set.map nc)), (33, .I (v : Int))], [(8, .box 3 [.I (v : Int)]), (1000007, .box 31 [.c (NR L)]), (1000002, .box 3 [.I (n : Int)]), (1000006, .box 48 [.c (TN G)]), (1000008, .box 50 [vG])]⟩
def gwT18 (G : List (List Nat)) (n : Nat) (L set : List Nat) (v : Nat) : St := ⟨40, [(0, .c (NR set)), (3, .ptr 1000002 0), (4, .ptr 1000006 0), (5, .ptr 1000008 0), (8, .ptr 8 0), (26, vG), (32, .full 1 (set.map nc)), (33, .I (v : Int))], [(8, .box 3 [.I (v : Int)]), (1000007, .box 31 [.c (NR L)]), (1000002, .box 3 [.I (n : Int)]), (1000006, .box 48 [.c (TN G)]), (1000008, .box 50 [vG])]⟩
def gwT20 (G : List (List Nat)) (n : Nat) (L set : List Nat) (v : Nat) : St := ⟨40, [(0, .c (NR set)), (3, .ptr 1000002 0), (4, .ptr 1000006 0), (5, .ptr 1000008 0), (8, .ptr 8 0), (26, vG), (27, .c (NR set)), (29, .I set.length), (31, .I set.length), (34, .own 34)], [(8, .box 3 [.I (v : Int)]), (1000007, .box 31 [.c (NR L)]), (1000002, .box 3 [.I (n : Int)]), (1000006, .box 48 [.c (TN G)]), (1000008, .box 50 [vG]), (34, .arr 3 1 [[.I (v : Int)]])]⟩
def gwT22 (G : List (List Nat)) (n : Nat) (L set : List Nat) (v : Nat) : St := ⟨40, [(0, .c (NR set)), (3, .ptr 1000002 0), (4, .ptr 1000006 0), (5, .ptr 1000008 0), (8, .ptr 8 0), (26, vG), (27, .c (NR set)), (29, .I set.length), (31, .I set.length), (37, .I ((v : Int) + 1))], [(8, .box 3 [.I (v : Int)]), (1000007, .box 31 [.c (NR L)]), (1000002, .box 3 [.I (n : Int)]), (1000006, .box 48 [.c (TN G)]), (1000008, .box 50 [vG])]⟩
def gwT23 (G : List (List Nat)) (n : Nat) (L set : List Nat) (v : Nat) : St := ⟨40, [(0, .c (NR set)), (3, .ptr 1000002 0), (4, .ptr 1000006 0), (5, .ptr 1000008 0), (8, .ptr 8 0), (32, .full 1 (set.map nc)), (34, .own 34)], [(8, .box 3 [.I (v : Int)]), (1000007, .box 31 [.c (NR L)]), (1000002, .box 3 [.I (n : Int)]), (1000006, .box 48 [.c (TN G)]), (1000008, .box 50 [vG]), (34, .arr 3 1 [[.I (v : Int)]])]⟩
def gwT25 (G : List (List Nat)) (n : Nat) (L set : List Nat) (v : Nat) : St := ⟨40, [(0, .c (NR set)), (3, .ptr 1000002 0), (4, .ptr 1000006 0), (5, .ptr 1000008 0), (8, .ptr 8 0), (32, .full 1 (set.map nc)), (37, .I ((v : Int) + 1))], [(8, .box 3 [.I (v : Int)]), (1000007, .box 31 [.c (NR L)]), (1000002, .box 3 [.I (n : Int)]), (1000006, .box 48 [.c (TN G)]), (1000008, .box 50 [vG])]⟩
def gwT27 (G : List (List Nat)) (n : Nat) (L set : List Nat) (v : Nat) : St := ⟨40, [(0, .c (NR set)), (3, .ptr 1000002 0), (4, .ptr 1000006 0), (5, .ptr 1000008 0), (8, .ptr 8 0), (27, .c (NR set)), (29, .I set.length), (31, .I set.length), (33, .I (v : Int)), (37, .I ((v : Int) + 1))], [(8, .box 3 [.I (v : Int)]), (1000007, .box 31 [.c (NR L)]), (1000002, .box 3 [.I (n : Int)]), (1000006, .box 48 [.c (TN G)]), (1000008, .box 50 [vG])]⟩
def gwT28 (G : List (List Nat)) (n : Nat) (L set : List Nat) (v : Nat) : St := ⟨40, [(0, .c (NR set)), (3, .ptr 1000002 0), (4, .ptr 1000006 0), (5, .ptr 1000008 0), (8, .ptr 8 0), (26, vG), (32, .full 1 (set.map nc)), (34, .own 34)], [(8, .box 3 [.I (v : Int)]), (1000007, .box 31 [.c (NR L)]), (1000002, .box 3 [.I (n : Int)]), (1000006, .box 48 [.c (TN G)]), (1000008, .box 50 [vG]), (34, .arr 3 1 [[.I (v : Int)]])]⟩
def gwT30 (G : List (List Nat)) (n : Nat) (L set : List Nat) (v : Nat) : St := ⟨40, [(0, .c (NR set)), (3, .ptr 1000002 0), (4, .ptr 1000006 0), (5, .ptr 1000008 0), (8, .ptr 8 0), (26, vG), (32, .full 1 (set.map nc)), (37, .I ((v : Int) + 1))], [(8, .box 3 [.I (v : Int)]), (1000007, .box 31 [.c (NR L)]), (1000002, .box 3 [.I (n : Int)]), (1000006, .box 48 [.c (TN G)]), (1000008, .box 50 [vG])]⟩
def gwT32 (G : List (List Nat)) (n : Nat) (L set : List Nat) (v : Nat) : St := ⟨40, [(0, .c (NR set)), (3, .ptr 1000002 0), (4, .ptr 1000006 0), (5, .ptr 1000008 0), (8, .ptr 8 0), (26, vG), (27, .c (NR set)), (29, .I set.length), (31, .I set.length), (33, .I (v : Int)), (37, .I ((v : Int) + 1))], [(8, .box 3 [.I (v : Int)]), (1000007, .box 31 [.c (NR L)]), (1000002, .box 3 [.I (n : Int)]), (1000006, .box 48 [.c (TN G)]), (1000008, .box 50 [vG])]⟩
def gwT35 (G : List (List Nat)) (n : Nat) (L set : List Nat) (v : Nat) : St := ⟨40, [(0, .c (NR set)), (3, .ptr 1000002 0), (4, .ptr 1000006 0), (5, .ptr 1000008 0), (8, .ptr 8 0), (32, .full 1 (set.map nc)), (33, .I (v : Int)), (37, .I ((v : Int) + 1))], [(8, .box 3 [.I (v : Int)]), (1000007, .box 31 [.c (NR L)]), (1000002, .box 3 [.I (n : Int)]), (1000006, .box 48 [.c (TN G)]), (1000008, .box 50 [vG])]⟩
def gwT36 (G : List (List Nat)) (n : Nat) (L set : List Nat) (v : Nat) : St := ⟨40, [(0, .c (NR set)), (3, .ptr 1000002 0), (4, .ptr 1000006 0), (5, .ptr 1000008 0), (8, .ptr 8 0), (27, .c (NR set)), (29, .I set.length), (31, .I set.length), (34, .own 34), (37, .I ((v : Int) + 1))], [(8, .box 3 [.I (v : Int)]), (1000007, .box 31 [.c (NR L)]), (1000002, .box 3 [.I (n : Int)]), (1000006, .box 48 [.c (TN G)]), (1000008, .box 50 [vG]), (34, .arr 3 1 [[.I (v : Int)]])]⟩
def gwT37 (G : List (List Nat)) (n : Nat) (L set : List Nat) (v : Nat) : St := ⟨40, [(0, .c (NR set)), (3, .ptr 1000002 0), (4, .ptr 1000006 0), (5, .ptr 1000008 0), (8, .ptr 8 0), (26, vG), (35, .own 35)], [(8, .box 3 [.I (v : Int)]), (1000007, .box 31 [.c (NR L)]), (1000002, .box 3 [.I (n : Int)]), (1000006, .box 48 [.c (TN G)]), (1000008, .box 50 [vG]), (34, .arr 3 1 [[.I (v : Int)]]), (35, .arr 3 1 ((set ++ [v]).map nc))]⟩
def gwT39 (G : List (List Nat)) (n : Nat) (L set : List Nat) (v : Nat) : St := ⟨40, [(0, .c (NR set)), (3, .ptr 1000002 0), (4, .ptr 1000006 0), (5, .ptr 1000008 0), (8, .ptr 8 0), (26, vG), (32, .full 1 (set.map nc)), (33, .I (v : Int)), (37, .I ((v : Int) + 1))], [(8, .box 3 [.I (v : Int)]), (1000007, .box 31 [.c (NR L)]), (1000002, .box 3 [.I (n : Int)]), (1000006, .box 48 [.c (TN G)]), (1000008, .box 50 [vG])]⟩
def gwT40 (G : List (List Nat)) (n : Nat) (L set : List Nat) (v : Nat) : St := ⟨40, [(0, .c (NR set)), (3, .ptr 1000002 0), (4, .ptr 1000006 0), (5, .ptr 1000008 0), (8, .ptr 8 0), (26, vG), (27, .c (NR set)), (29, .I set.length), (31, .I set.length), (34, .own 34), (37, .I ((v : Int) + 1))], [(8, .box 3 [.I (v : Int)]), (1000007, .box 31 [.c (NR L)]), (1000002, .box 3 [.I (n : Int)]), (1000006, .box 48 [.c (TN G)]), (1000008, .box 50 [vG]), (34, .arr 3 1 [[.I (v : Int)]])]⟩
def gwT42 (G : List (List Nat)) (n : Nat) (L set : List Nat) (v : Nat) : St := ⟨40, [(0, .c (NR set)), (3, .ptr 1000002 0), (4, .ptr 1000006 0), (5, .ptr 1000008 0), (8, .ptr 8 0), (32, .full 1 (set.map nc)), (34, .own 34), (37, .I ((v : Int) + 1))], [(8, .box 3 [.I (v : Int)]), (1000007, .box 31 [.c (NR L)]), (1000002, .box 3 [.I (n : Int)]), (1000006, .box 48 [.c (TN G)]), (1000008, .box 50 [vG]), (34, .arr 3 1 [[.I (v : Int)]])]⟩
def gwT44 (G : List (List Nat)) (n : Nat) (L set : List Nat) (v : Nat) : St := ⟨40, [(0, .c (NR set)), (3, .ptr 1000002 0), (4, .ptr 1000006 0), (5, .ptr 1000008 0), (8, .ptr 8 0), (26, vG), (32, .full 1 (set.map nc)), (34, .own 34), (37, .I ((v : Int) + 1))], [(8, .box 3 [.I (v : Int)]), (1000007, .box 31 [.c (NR L)]), (1000002, .box 3 [.I (n : Int)]), (1000006, .box 48 [.c (TN G)]), (1000008, .box 50 [vG]), (34, .arr 3 1 [[.I (v : Int)]])]⟩
def gwT45 (G : List (List Nat)) (n : Nat) (L set : List Nat) (v : Nat) : St := ⟨40, [(0, .c (NR set)), (3, .ptr 1000002 0), (4, .ptr 1000006 0), (5, .ptr 1000008 0), (8, .ptr 8 0), (35, .own 35), (37, .I ((v : Int) + 1))], [(8, .box 3 [.I (v : Int)]), (1000007, .box 31 [.c (NR L)]), (1000002, .box 3 [.I (n : Int)]), (1000006, .box 48 [.c (TN G)]), (1000008, .box 50 [vG]), (34, .arr 3 1 [[.I (v : Int)]]), (35, .arr 3 1 ((set ++ [v]).map nc))]⟩
def gwT46 (G : List (List Nat)) (n : Nat) (L set : List Nat) (v : Nat) : St := ⟨40, [(0, .c (NR set)), (3, .ptr 1000002 0), (4, .ptr 1000006 0), (5, .ptr 1000008 0), (8, .ptr 8 0), (26, vG), (35, .own 35), (37, .I ((v : Int) + 1))], [(8, .box 3 [.I (v : Int)]), (1000007, .box 31 [.c (NR L)]), (1000002, .box 3 [.I (n : Int)]), (1000006, .box 48 [.c (TN G)]), (1000008, .box 50 [vG]), (34, .arr 3 1 [[.I (v : Int)]]), (35, .arr 3 1 ((set ++ [v]).map nc))]⟩
def gwT (G : List (List Nat)) (n : Nat) (L set : List Nat) (v : Nat) : List (Nat × St) := [(10, gwT10 G n L set v), (11, gwT11 G n L set v), (13, gwT13 G n L set v), (18, gwT18 G n L set v), (20, gwT20 G n L set v), (22, gwT22 G n L set v), (23, gwT23 G n L set v), (25, gwT25 G n L set v), (27, gwT27 G n L set v), (28, gwT28 G n L set v), (30, gwT30 G n L set v), (32, gwT32 G n L set v), (35, gwT35 G n L set v), (36, gwT36 G n L set v), (37, gwT37 G n L set v), (39, gwT39 G n L set v), (40, gwT40 G n L set v), (42, gwT42 G n L set v), (44, gwT44 G n L set v), (45, gwT45 G n L set v), (46, gwT46 G n L set v)]
def gwTG : List GN := [.one 1 1, .one 2 2, .one 3 3, .one 4 4, .one 5 5, .all [(0, 6), (6, 7), (7, 8), (10, 9)], .all [(6, 10), (7, 11), (10, 12)], .all [(0, 10), (7, 13), (10, 14)], .all [(0, 11), (6, 13), (8, 15), (10, 16)], .one 11 17, .all [(7, 18), (10, 19)], .all [(6, 18), (8, 20), (10, 21)], .one 11 22, .all [(0, 18), (8, 23), (10, 24)], .one 11 25, .all [(0, 20), (6, 23), (10, 26)], .one 11 27, .all [(0, 22), (6, 25), (7, 27)], .all [(8, 28), (10, 29)], .one 11 30, .all [(6, 28), (10, 31)], .one 11 32, .all [(6, 30), (7, 32)], .all [(0, 28), (9, 33), (10, 34)], .one 11 35, .all [(0, 30), (7, 35)], .one 11 36, .all [(0, 32), (6, 35), (8, 36)], .all [(9, 37), (10, 38)], .one 11 39, .all [(7, 39)], .one 11 40, .all [(6, 39), (8, 40)], .all [(0, 37), (10, 41)], .one 11 42, .all [(0, 39), (8, 42)], .all [(0, 40), (6, 42)], .all [(10, 43)], .one 11 44, .all [(8, 44)], .all [(6, 44)], .one 11 45, .all [(0, 44), (9, 45)], .one 11 46, .all [(9, 46)], .all [(0, 46)], .all [(12, 47)], .fin]
abbrev gwTM : List Nat := [0, 2, 6, 14, 30, 62, 63, 126, 190, 1086, 127, 191, 1087, 254, 1150, 446, 1214, 3134, 255, 1151, 447, 1215, 3135, 510, 1278, 3198, 1470, 3262, 511, 1279, 3199, 1471, 3263, 1022, 1534, 3326, 3518, 1023, 1535, 3327, 3519, 2046, 3582, 2047, 3583, 4094, 4095, 8191]
theorem gwTl0 (G : List (List Nat)) (n : Nat) (L set : List Nat) (v : Nat) : lookT 0 (gwT G n L set v) = none := rfl
theorem gwTg0 : nthG gwTG 0 = some (.one 1 1) := rfl
theorem gwTl1 (G : List (List Nat)) (n : Nat) (L set : List Nat) (v : Nat) : lookT 1 (gwT G n L set v) = none := rfl
theorem gwTg1 : nthG gwTG 1 = some (.one 2 2) := rfl
theorem gwTl2 (G : List (List Nat)) (n : Nat) (L set : List Nat) (v : Nat) : lookT 2 (gwT G n L set v) = none := rfl
theorem gwTg2 : nthG gwTG 2 = some (.one 3 3) := rfl
theorem gwTl3 (G : List (List Nat)) (n : Nat) (L set : List Nat) (v : Nat) : lookT 3 (gwT G n L set v) = none := rfl
theorem gwTg3 : nthG gwTG 3 = some (.one 4 4) := rfl
theorem gwTl4 (G : List (List Nat)) (n : Nat) (L set : List Nat) (v : Nat) : lookT 4 (gwT G n L set v) = none := rfl
theorem gwTg4 : nthG gwTG 4 = some (.one 5 5) := rfl
theorem gwTl5 (G : List (List Nat)) (n : Nat) (L set : List Nat) (v : Nat) : lookT 5 (gwT G n L set v) = none := rfl
theorem gwTg5 : nthG gwTG 5 = some (.all [(0, 6), (6, 7), (7, 8), (10, 9)]) := rfl
theorem gwTl6 (G : List (List Nat)) (n : Nat) (L set : List Nat) (v : Nat) : lookT 6 (gwT G n L set v) = none := rfl
theorem gwTg6 : nthG gwTG 6 = some (.all [(6, 10), (7, 11), (10, 12)]) := rfl
theorem gwTl7 (G : List (List Nat)) (n : Nat) (L set : List Nat) (v : Nat) : lookT 7 (gwT G n L set v) = none := rfl
theorem gwTg7 : nthG gwTG 7 = some (.all [(0, 10), (7, 13), (10, 14)]) := rfl
theorem gwTl8 (G : List (List Nat)) (n : Nat) (L set : List Nat) (v : Nat) : lookT 8 (gwT G n L set v) = none := rfl
theorem gwTg8 : nthG gwTG 8 = some (.all [(0, 11), (6, 13), (8, 15), (10, 16)]) := rfl
theorem gwTl9 (G : List (List Nat)) (n : Nat) (L set : List Nat) (v : Nat) : lookT 9 (gwT G n L set v) = none := rfl
theorem gwTg9 : nthG gwTG 9 = some (.one 11 17) := rfl
theorem gwTl10 (G : List (List Nat)) (n : Nat) (L set : List Nat) (v : Nat) : lookT 10 (gwT G n L set v) = some (gwT10 G n L set v) := rfl
theorem gwTg10 : nthG gwTG 10 = some (.all [(7, 18), (10, 19)]) := rfl
theorem gwTl11 (G : List (List Nat)) (n : Nat) (L set : List Nat) (v : Nat) : lookT 11 (gwT G n L set v) = some (gwT11 G n L set v) := rfl
theorem gwTg11 : nthG gwTG 11 = some (.all [(6, 18), (8, 20), (10, 21)]) := rfl
theorem gwTl12 (G : List (List Nat)) (n : Nat) (L set : List Nat) (v : Nat) : lookT 12 (gwT G n L set v) = none := rfl
theorem gwTg12 : nthG gwTG 12 = some (.one 11 22) := rfl
theorem gwTl13 (G : List (List Nat)) (n : Nat) (L set : List Nat) (v : Nat) : lookT 13 (gwT G n L set v) = some (gwT13 G n L set v) := rfl
theorem gwTg13 : nthG gwTG 13 = some (.all [(0, 18), (8, 23), (10, 24)]) := rfl
theorem gwTl14 (G : List (List Nat)) (n : Nat) (L set : List Nat) (v : Nat) : lookT 14 (gwT G n L set v) = none := rfl
theorem gwTg14 : nthG gwTG 14 = some (.one 11 25) := rfl
theorem gwTl15 (G : List (List Nat)) (n : Nat) (L set : List Nat) (v : Nat) : lookT 15 (gwT G n L set v) = none := rfl
theorem gwTg15 : nthG gwTG 15 = some (.all [(0, 20), (6, 23), (10, 26)]) := rfl
theorem gwTl16 (G : List (List Nat)) (n : Nat) (L set : List Nat) (v : Nat) : lookT 16 (gwT G n L set v) = none := rfl
theorem gwTg16 : nthG gwTG 16 = some (.one 11 27) := rfl
theorem gwTl17 (G : List (List Nat)) (n : Nat) (L set : List Nat) (v : Nat) : lookT 17 (gwT G n L set v) = none := rfl
theorem gwTg17 : nthG gwTG 17 = some (.all [(0, 22), (6, 25), (7, 27)]) := rfl
theorem gwTl18 (G : List (List Nat)) (n : Nat) (L set : List Nat) (v : Nat) : lookT 18 (gwT G n L set v) = some (gwT18 G n L set v) := rfl
theorem gwTg18 : nthG gwTG 18 = some (.all [(8, 28), (10, 29)]) := rfl
theorem gwTl19 (G : List (List Nat)) (n : Nat) (L set : List Nat) (v : Nat) : lookT 19 (gwT G n L set v) = none := rfl
theorem gwTg19 : nthG gwTG 19 = some (.one 11 30) := rfl
theorem gwTl20 (G : List (List Nat)) (n : Nat) (L set : List Nat) (v : Nat) : lookT 20 (gwT G n L set v) = some (gwT20 G n L set v) := rfl
theorem gwTg20 : nthG gwTG 20 = some (.all [(6, 28), (10, 31)]) := rfl
theorem gwTl21 (G : List (List Nat)) (n : Nat) (L set : List Nat) (v : Nat) : lookT 21 (gwT G n L set v) = none := rfl
theorem gwTg21 : nthG gwTG 21 = some (.one 11 32) := rfl
theorem gwTl22 (G : List (List Nat)) (n : Nat) (L set : List Nat) (v : Nat) : lookT 22 (gwT G n L set v) = some (gwT22 G n L set v) := rfl
theorem gwTg22 : nthG gwTG 22 = some (.all [(6, 30), (7, 32)]) := rfl
theorem gwTl23 (G : List (List Nat)) (n : Nat) (L set : List Nat) (v : Nat) : lookT 23 (gwT G n L set v) = some (gwT23 G n L set v) := rfl
theorem gwTg23 : nthG gwTG 23 = some (.all [(0, 28), (9, 33), (10, 34)]) := rfl
theorem gwTl24 (G : List (List Nat)) (n : Nat) (L set : List Nat) (v : Nat) : lookT 24 (gwT G n L set v) = none := rfl
theorem gwTg24 : nthG gwTG 24 = some (.one 11 35) := rfl
theorem gwTl25 (G : List (List Nat)) (n : Nat) (L set : List Nat) (v : Nat) : lookT 25 (gwT G n L set v) = some (gwT25 G n L set v) := rfl
theorem gwTg25 : nthG gwTG 25 = some (.all [(0, 30), (7, 35)]) := rfl
theorem gwTl26 (G : List (List Nat)) (n : Nat) (L set : List Nat) (v : Nat) : lookT 26 (gwT G n L set v) = none := rfl
theorem gwTg26 : nthG gwTG 26 = some (.one 11 36) := rfl
theorem gwTl27 (G : List (List Nat)) (n : Nat) (L set : List Nat) (v : Nat) : lookT 27 (gwT G n L set v) = some (gwT27 G n L set v) := rfl
theorem gwTg27 : nthG gwTG 27 = some (.all [(0, 32), (6, 35), (8, 36)]) := rfl
theorem gwTl28 (G : List (List Nat)) (n : Nat) (L set : List Nat) (v : Nat) : lookT 28 (gwT G n L set v) = some (gwT28 G n L set v) := rfl
theorem gwTg28 : nthG gwTG 28 = some (.all [(9, 37), (10, 38)]) := rfl
theorem gwTl29 (G : List (List Nat)) (n : Nat) (L set : List Nat) (v : Nat) : lookT 29 (gwT G n L set v) = none := rfl
theorem gwTg29 : nthG gwTG 29 = some (.one 11 39) := rfl
theorem gwTl30 (G : List (List Nat)) (n : Nat) (L set : List Nat) (v : Nat) : lookT 30 (gwT G n L set v) = some (gwT30 G n L set v) := rfl
theorem gwTg30 : nthG gwTG 30 = some (.all [(7, 39)]) := rfl
theorem gwTl31 (G : List (List Nat)) (n : Nat) (L set : List Nat) (v : Nat) : lookT 31 (gwT G n L set v) = none := rfl
theorem gwTg31 : nthG gwTG 31 = some (.one 11 40) := rfl
theorem gwTl32 (G : List (List Nat)) (n : Nat) (L set : List Nat) (v : Nat) : lookT 32 (gwT G n L set v) = some (gwT32 G n L set v) := rfl
theorem gwTg32 : nthG gwTG 32 = some (.all [(6, 39), (8, 40)]) := rfl
theorem gwTl33 (G : List (List Nat)) (n : Nat) (L set : List Nat) (v : Nat) : lookT 33 (gwT G n L set v) = none := rfl
theorem gwTg33 : nthG gwTG 33 = some (.all [(0, 37), (10, 41)]) := rfl
theorem gwTl34 (G : List (List Nat)) (n : Nat) (L set : List Nat) (v : Nat) : lookT 34 (gwT G n L set v) = none := rfl
theorem gwTg34 : nthG gwTG 34 = some (.one 11 42) := rfl
theorem gwTl35 (G : List (List Nat)) (n : Nat) (L set : List Nat) (v : Nat) : lookT 35 (gwT G n L set v) = some (gwT35 G n L set v) := rfl
theorem gwTg35 : nthG gwTG 35 = some (.all [(0, 39), (8, 42)]) := rfl
theorem gwTl36 (G : List (List Nat)) (n : Nat) (L set : List Nat) (v : Nat) : lookT 36 (gwT G n L set v) = some (gwT36 G n L set v) := rfl
theorem gwTg36 : nthG gwTG 36 = some (.all [(0, 40), (6, 42)]) := rfl
theorem gwTl37 (G : List (List Nat)) (n : Nat) (L set : List Nat) (v : Nat) : lookT 37 (gwT G n L set v) = some (gwT37 G n L set v) := rfl
theorem gwTg37 : nthG gwTG 37 = some (.all [(10, 43)]) := rfl
theorem gwTl38 (G : List (List Nat)) (n : Nat) (L set : List Nat) (v : Nat) : lookT 38 (gwT G n L set v) = none := rfl
theorem gwTg38 : nthG gwTG 38 = some (.one 11 44) := rfl
theorem gwTl39 (G : List (List Nat)) (n : Nat) (L set : List Nat) (v : Nat) : lookT 39 (gwT G n L set v) = some (gwT39 G n L set v) := rfl
theorem gwTg39 : nthG gwTG 39 = some (.all [(8, 44)]) := rfl
theorem gwTl40 (G : List (List Nat)) (n : Nat) (L set : List Nat) (v : Nat) : lookT 40 (gwT G n L set v) = some (gwT40 G n L set v) := rfl
theorem gwTg40 : nthG gwTG 40 = some (.all [(6, 44)]) := rfl
theorem gwTl41 (G : List (List Nat)) (n : Nat) (L set : List Nat) (v : Nat) : lookT 41 (gwT G n L set v) = none := rfl
theorem gwTg41 : nthG gwTG 41 = some (.one 11 45) := rfl
theorem gwTl42 (G : List (List Nat)) (n : Nat) (L set : List Nat) (v : Nat) : lookT 42 (gwT G n L set v) = some (gwT42 G n L set v) := rfl
theorem gwTg42 : nthG gwTG 42 = some (.all [(0, 44), (9, 45)]) := rfl
theorem gwTl43 (G : List (List Nat)) (n : Nat) (L set : List Nat) (v : Nat) : lookT 43 (gwT G n L set v) = none := rfl
theorem gwTg43 : nthG gwTG 43 = some (.one 11 46) := rfl
theorem gwTl44 (G : List (List Nat)) (n : Nat) (L set : List Nat) (v : Nat) : lookT 44 (gwT G n L set v) = some (gwT44 G n L set v) := rfl
theorem gwTg44 : nthG gwTG 44 = some (.all [(9, 46)]) := rfl
theorem gwTl45 (G : List (List Nat)) (n : Nat) (L set : List Nat) (v : Nat) : lookT 45 (gwT G n L set v) = some (gwT45 G n L set v) := rfl
theorem gwTg45 : nthG gwTG 45 = some (.all [(0, 46)]) := rfl
theorem gwTl46 (G : List (List Nat)) (n : Nat) (L set : List Nat) (v : Nat) : lookT 46 (gwT G n L set v) = some (gwT46 G n L set v) := rfl
theorem gwTg46 : nthG gwTG 46 = some (.all [(12, 47)]) := rfl
theorem gwTl47 (G : List (List Nat)) (n : Nat) (L set : List Nat) (v : Nat) : lookT 47 (gwT G n L set v) = none := rfl
theorem gwTg47 : nthG gwTG 47 = some (.fin) := rfl
theorem gwTs0 (P : Program) (K : St → Prop) (σ : St) : atS P K c16_10L 0 σ = sGuard P K σ (some 26) (.ld none (.t 5)) none (guardOf σ none) := rfl
theorem gwTs1 (P : Program) (K : St → Prop) (σ : St) : atS P K c16_10L 1 σ = sGuard P K σ (some 27) (.mv (.t 0)) none (guardOf σ none) := rfl
theorem gwTo1 (K : St → Prop) (σ : St) : atO K c16_10L 1 σ = SFg K σ (some 27) (.mv (.t 0)) none (guardOf σ none) := by unfold c16_10L; simp only [atO_zero, atO_succ]
theorem gwTs2 (P : Program) (K : St → Prop) (σ : St) : atS P K c16_10L 2 σ = sGuard P K σ (some 28) (.mv (.t 0)) none (guardOf σ none) := rfl
theorem gwTo2 (K : St → Prop) (σ : St) : atO K c16_10L 2 σ = SFg K σ (some 28) (.mv (.t 0)) none (guardOf σ none) := by unfold c16_10L; simp only [atO_zero, atO_succ]
theorem gwTs3 (P : Program) (K : St → Prop) (σ : St) : atS P K c16_10L 3 σ = sGuard P K σ (some 29) (.len (.t 28)) none (guardOf σ none) := rfl
theorem gwTo3 (K : St → Prop) (σ : St) : atO K c16_10L 3 σ = SFg K σ (some 29) (.len (.t 28)) none (guardOf σ none) := by unfold c16_10L; simp only [atO_zero, atO_succ]
theorem gwTs4 (P : Program) (K : St → Prop) (σ : St) : atS P K c16_10L 4 σ = sGuard P K σ (some 30) (.mv (.t 0)) none (guardOf σ none) := rfl
theorem gwTo4 (K : St → Prop) (σ : St) : atO K c16_10L 4 σ = SFg K σ (some 30) (.mv (.t 0)) none (guardOf σ none) := by unfold c16_10L; simp only [atO_zero, atO_succ]
theorem gwTs5 (P : Program) (K : St → Prop) (σ : St) : atS P K c16_10L 5 σ = sGuard P K σ (some 31) (.len (.t 30)) none (guardOf σ none) := rfl
theorem gwTo5 (K : St → Prop) (σ : St) : atO K c16_10L 5 σ = SFg K σ (some 31) (.len (.t 30)) none (guardOf σ none) := by unfold c16_10L; simp only [atO_zero, atO_succ]
theorem gwTs6 (P : Program) (K : St → Prop) (σ : St) : atS P K c16_10L 6 σ = sGuard P K σ (some 32) (.slc3 1 (.t 27) (.t 29) (.t 31)) none (guardOf σ none) := rfl
theorem gwTs7 (P : Program) (K : St → Prop) (σ : St) : atS P K c16_10L 7 σ = sGuard P K σ (some 33) (.ld none (.t 8)) none (guardOf σ none) := rfl
theorem gwTs8 (P : Program) (K : St → Prop) (σ : St) : atS P K c16_10L 8 σ = sGuard P K σ (some 34) (.bslice 3 1 [(.t 33)]) none (guardOf σ none) := rfl
theorem gwTs9 (P : Program) (K : St → Prop) (σ : St) : atS P K c16_10L 9 σ = sGuard P K σ (some 35) (.app 3 1 8 (.t 32) (.t 34)) none (guardOf σ none) := rfl
theorem gwTs10 (P : Program) (K : St → Prop) (σ : St) : atS P K c16_10L 10 σ = sGuard P K σ (some 36) (.ld none (.t 8)) none (guardOf σ none) := rfl
theorem gwTs11 (P : Program) (K : St → Prop) (σ : St) : atS P K c16_10L 11 σ = sGuard P K σ (some 37) (.bin .add (.t 36) (.k (.I 1))) none (guardOf σ none) := rfl
theorem gwTo11 (K : St → Prop) (σ : St) : atO K c16_10L 11 σ = SFg K σ (some 37) (.bin .add (.t 36) (.k (.I 1))) none (guardOf σ none) := by unfold c16_10L; simp only [atO_zero, atO_succ]
theorem gwTs12 (P : Program) (K : St → Prop) (σ : St) : atS P K c16_10L 12 σ = sGuard P K σ (some 38) (.callv (.t 26) [(.t 35), (.t 37)]) none (guardOf σ none) := rfl
attribute [go_sem] gwT10 gwT11 gwT13 gwT18 gwT20 gwT22 gwT23 gwT25 gwT27 gwT28 gwT30 gwT32 gwT35 gwT36 gwT37 gwT39 gwT40 gwT42 gwT44 gwT45 gwT46 gwTl0 gwTg0 gwTl1 gwTg1 gwTl2 gwTg2 gwTl3 gwTg3 gwTl4 gwTg4 gwTl5 gwTg5 gwTl6 gwTg6 gwTl7 gwTg7 gwTl8 gwTg8 gwTl9 gwTg9 gwTl10 gwTg10 gwTl11 gwTg11 gwTl12 gwTg12 gwTl13 gwTg13 gwTl14 gwTg14 gwTl15 gwTg15 gwTl16 gwTg16 gwTl17 gwTg17 gwTl18 gwTg18 gwTl19 gwTg19 gwTl20 gwTg20 gwTl21 gwTg21 gwTl22 gwTg22 gwTl23 gwTg23 gwTl24 gwTg24 gwTl25 gwTg25 gwTl26 gwTg26 gwTl27 gwTg27 gwTl28 gwTg28 gwTl29 gwTg29 gwTl30 gwTg30 gwTl31 gwTg31 gwTl32 gwTg32 gwTl33 gwTg33 gwTl34 gwTg34 gwTl35 gwTg35 gwTl36 gwTg36 gwTl37 gwTg37 gwTl38 gwTg38 gwTl39 gwTg39 gwTl40 gwTg40 gwTl41 gwTg41 gwTl42 gwTg42 gwTl43 gwTg43 gwTl44 gwTg44 gwTl45 gwTg45 gwTl46 gwTg46 gwTl47 gwTg47 gwTs0 gwTs1 gwTo1 gwTs2 gwTo2 gwTs3 gwTo3 gwTs4 gwTo4 gwTs5 gwTo5 gwTs6 gwTs7 gwTs8 gwTs9 gwTs10 gwTs11 gwTo11 gwTs12
def in16 (G : List (List Nat)) (n : Nat) (L set : List Nat) (v : Nat) : St := ⟨40, [(0, .c (NR set)), (3, .ptr 1000002 0), (4, .ptr 1000006 0), (5, .ptr 1000008 0), (8, .ptr 8 0)], [(8, .box 3 [.I (v : Int)]), (1000007, .box 31 [.c (NR L)]), (1000002, .box 3 [.I (n : Int)]), (1000006, .box 48 [.c (TN G)]), (1000008, .box 50 [vG])]⟩
set_option maxHeartbeats 40000000 in
theorem r16 (G : List (List Nat)) (n : Nat) (L L' set : List Nat) (v : Nat) (hv : v ≤ 1000) (hs : set.length ≤ 1000)
    (g : FnW Try.prog 16 [.c (NR (set ++ [v])), .I ((v : Int) + 1), .ptr 1000007 0, .ptr 1000002 0, .ptr 1000006 0, .ptr 1000008 0] (obG G n L) [] (obG G n L') [1000007, 1000002, 1000006, 1000008]) :
    AW Try.prog c16_10 (cutQ (in16 G n L' set v)) (in16 G n L set v) := by
  refine AW_regG (gwT G n L set v) gwTM gwTG (by kernel_rfl) (by kernel_rfl) (Both.mk ?_ ?_)
  · unfold in16
    (repeat' (first | refine NextAt.mk (fun hc => ?_) (fun pre n v post hc hkey => ?_) | refine Sni.mk (fun hc => ?_) ?_ | refine Both.mk ?_ ?_ | refine AW_seq ?_ | refine AW_block ?_ | ((first | refine AW_reg ?_ | refine AW_cond ?_ | refine AW_skip ?_ | refine AW_exit ?_ | refine AW_ret ?_ | refine AW_regD (by kernel_rfl) ?_ | refine AW_regX (by kernel_rfl) ?_ | refine CallAtG.t (Eq.refl true) ?_ | refine CallAtG.f (Eq.refl false) ?_); try simp (disch := omega) only [go_sem, seval, reduceCtorEq, ↓reduceIte, beq_dec, Int.toNat_natCast, IntKind.signed, IntKind.bits, Int.toNat_natCast, List.length_map, maxLen, take_nc, snoc_nc]) | refine And.intro (fun hc => (?_ : AW _ _ _ _)) (fun hc => (?_ : AW _ _ _ _)) | simp (disch := omega) only [go_sem, seval, reduceCtorEq, ↓reduceIte, beq_dec, Int.toNat_natCast, IntKind.signed, IntKind.bits, Int.toNat_natCast, List.length_map, maxLen, take_nc, snoc_nc] | (refine And.intro ?_ ?_; focus (first | (intros; omega) | (intros; simp_all; done))) | refine And.intro (?_ : CallAt _ _ _ _ _ _ _ _) ?_ | refine And.intro (?_ : CallAt _ _ _ _ _ _ _ _ ∧ _) ?_ | refine And.intro (?_ : AW _ _ _ _) ?_ | fail))
    all_goals first | omega | skip
    all_goals trace_state
  · unfold gwT
    (repeat' (first | refine NextAt.mk (fun hc => ?_) (fun pre n v post hc hkey => ?_) | refine Sni.mk (fun hc => ?_) ?_ | refine Both.mk ?_ ?_ | refine AW_seq ?_ | refine AW_block ?_ | ((first | refine AW_reg ?_ | refine AW_cond ?_ | refine AW_skip ?_ | refine AW_exit ?_ | refine AW_ret ?_ | refine AW_regD (by kernel_rfl) ?_ | refine AW_regX (by kernel_rfl) ?_ | refine CallAtG.t (Eq.refl true) ?_ | refine CallAtG.f (Eq.refl false) ?_); try simp (disch := omega) only [go_sem, seval, reduceCtorEq, ↓reduceIte, beq_dec, Int.toNat_natCast, IntKind.signed, IntKind.bits, in16, knotsP_nil, knotsP_cons, Int.toNat_natCast, List.length_map, maxLen, take_nc, snoc_nc]) | refine And.intro (fun hc => (?_ : AW _ _ _ _)) (fun hc => (?_ : AW _ _ _ _)) | simp (disch := omega) only [go_sem, seval, reduceCtorEq, ↓reduceIte, beq_dec, Int.toNat_natCast, IntKind.signed, IntKind.bits, in16, knotsP_nil, knotsP_cons, Int.toNat_natCast, List.length_map, maxLen, take_nc, snoc_nc] | (refine And.intro ?_ ?_; focus (first | (intros; omega) | (intros; simp_all; done))) | refine And.intro (?_ : CallAt _ _ _ _ _ _ _ _) ?_ | refine And.intro (?_ : CallAt _ _ _ _ _ _ _ _ ∧ _) ?_ | refine And.intro (?_ : AW _ _ _ _) ?_ | fail))
    all_goals first | omega | skip
    all_goals (
      refine CallAt.frz [35] ?_
      simp (disch := omega) only [go_sem, seval, reduceCtorEq, ↓reduceIte, beq_dec, Int.toNat_natCast, IntKind.signed, IntKind.bits])
    all_goals ((repeat' (first | refine NextAt.mk (fun hc => ?_) (fun pre n v post hc hkey => ?_) | refine Sni.mk (fun hc => ?_) ?_ | refine Both.mk ?_ ?_ | refine AW_seq ?_ | refine AW_block ?_ | ((first | refine AW_reg ?_ | refine AW_cond ?_ | refine AW_skip ?_ | refine AW_exit ?_ | refine AW_ret ?_ | refine AW_regD (by kernel_rfl) ?_ | refine AW_regX (by kernel_rfl) ?_ | refine CallAt.mkW (g ..) (by rfl) (by simp (disch := omega) only [go_sem, seval, reduceCtorEq, ↓reduceIte, beq_dec, Int.toNat_natCast, IntKind.signed, IntKind.bits, in16]) (by rfl) (by rfl) (by first | (intro h; cases h; done) | (intro _; simp [RV.flatP, CD.flatP, flatOb, AO.flatP, in16]; done)) ?_ | refine CallAtG.t (Eq.refl true) ?_ | refine CallAtG.f (Eq.refl false) ?_); try simp (disch := omega) only [go_sem, seval, reduceCtorEq, ↓reduceIte, beq_dec, Int.toNat_natCast, IntKind.signed, IntKind.bits, in16]) | refine And.intro (fun hc => (?_ : AW _ _ _ _)) (fun hc => (?_ : AW _ _ _ _)) | simp (disch := omega) only [go_sem, seval, reduceCtorEq, ↓reduceIte, beq_dec, Int.toNat_natCast, IntKind.signed, IntKind.bits, in16] | (refine And.intro ?_ ?_; focus (first | (intros; omega) | (intros; simp_all; done))) | refine And.intro (?_ : CallAt _ _ _ _ _ _ _ _) ?_ | refine And.intro (?_ : CallAt _ _ _ _ _ _ _ _ ∧ _) ?_ | refine And.intro (?_ : AW _ _ _ _) ?_ | fail)))
    all_goals trace_state
end Go.Proofs.Ytggcpnnmmcnogaa

