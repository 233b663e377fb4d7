/-
  Lemmas for the proof: no statement of its own.
-/
import Derived.Test.YtggcpnnmmcnogaaWalkA
set_option linter.unusedVariables false
set_option linter.unusedSimpArgs false
-- P p_b.txt
open Go Go.AL Go.RowKit
namespace Go.Proofs.Ytggcpnnmmcnogaa
set_option maxRecDepth 20000
/- coinage/coloring.Overlaps -/
abbrev c5_1 : AC := .reg [⟨(some 2), .mv (.k (.c .nil)), none⟩,
  ⟨(some 3), .mv (.k (.I 0)), none⟩] false
abbrev c5_2 : AC := .reg [⟨(some 11), .mv (.t 0), none⟩,
  ⟨(some 12), .call 12 [(.t 11)], none⟩,
  ⟨(some 4), .mv (.t 12), none⟩] false
abbrev c5_3 : AC := .reg [⟨(some 13), .mv (.t 4), none⟩,
  ⟨(some 14), .bin .neq (.t 13) (.k (.I 0)), none⟩] false
abbrev c5_4 : AC := .reg [⟨(some 15), .mv (.t 4), none⟩,
  ⟨(some 2), .mv (.k (.c .nil)), none⟩,
  ⟨(some 3), .mv (.t 15), none⟩] false
abbrev c5_5 : AC := .seq c5_4 .ret
abbrev c5_6 : AC := .cond (.t 14) c5_5 .skip
abbrev c5_7 : AC := .seq c5_3 c5_6
abbrev c5_8 : AC := .seq c5_2 c5_7
abbrev c5_9 : AC := .reg [⟨(some 5), .mv (.k (.c .nil)), none⟩] false
abbrev c5_10 : AC := .reg [⟨(some 16), .mv (.t 0), none⟩,
  ⟨(some 17), .len (.t 16), none⟩,
  ⟨(some 18), .mv (.k (.I 0)), none⟩] false
abbrev c5_11 : AC := .reg [⟨(some 19), .bin .lss (.t 18) (.t 17), none⟩] false
abbrev c5_12 : AC := .cond (.t 19) .skip (.exit 0)
abbrev c5_13 : AC := .reg [⟨(some 20), .mv (.t 18), none⟩,
  ⟨(some 21), .iad 2 (.t 16) (.t 18), none⟩,
  ⟨(some 22), .ld (some 2) (.t 21), none⟩,
  ⟨(some 7), .alloc 36 [(.I 0), (.I 0)], none⟩,
  ⟨(some 6), .mv (.t 20), none⟩,
  ⟨none, .st (some 2) (.t 7) (.t 22), none⟩] false
abbrev c5_14 : AC := .reg [⟨(some 23), .mv (.t 6), none⟩,
  ⟨(some 24), .bin .add (.t 23) (.k (.I 1)), none⟩,
  ⟨(some 8), .mv (.t 24), none⟩] false
abbrev c5_15 : AC := .reg [⟨(some 25), .mv (.t 8), none⟩,
  ⟨(some 26), .mv (.t 0), none⟩,
  ⟨(some 27), .len (.t 26), none⟩,
  ⟨(some 28), .bin .lss (.t 25) (.t 27), none⟩] false
abbrev c5_16 : AC := .cond (.t 28) .skip (.exit 2)
abbrev c5_17 : AC := .seq c5_15 c5_16
abbrev c5_18 : AC := .regX (.first ⟨(some 33), .mv (.t 0), none⟩
  (.first ⟨(some 34), .mv (.t 8), none⟩
  (.first ⟨(some 35), .iad 2 (.t 33) (.t 34), none⟩
  (.fork ⟨(some 32), .ld (some 2) (.t 7), none⟩
  (.fork ⟨(some 36), .ld (some 2) (.t 35), none⟩
  (.fork ⟨(some 37), .call 10 [(.t 32), (.t 36)], none⟩
  (.first ⟨(some 31), .mv (.t 37), none⟩
  (.first ⟨(some 38), .ext (.t 31) 0, none⟩
  (.first ⟨(some 39), .ext (.t 31) 1, none⟩
  (.fork ⟨(some 9), .alloc 36 [(.I 0), (.I 0)], none⟩
  (.fork ⟨none, .st (some 2) (.t 9) (.t 38), none⟩
  (.first ⟨(some 10), .mv (.t 39), none⟩
  .done)
  .nope)
  .nope))))
  (.fork ⟨(some 9), .alloc 36 [(.I 0), (.I 0)], none⟩
  (.fork ⟨(some 37), .call 10 [(.t 32), (.t 36)], none⟩
  (.first ⟨(some 31), .mv (.t 37), none⟩
  (.first ⟨(some 38), .ext (.t 31) 0, none⟩
  (.first ⟨(some 39), .ext (.t 31) 1, none⟩
  (.fork ⟨none, .st (some 2) (.t 9) (.t 38), none⟩
  (.first ⟨(some 10), .mv (.t 39), none⟩
  .done)
  .nope))))
  .nope)
  .nope))
  (.fork ⟨(some 9), .alloc 36 [(.I 0), (.I 0)], none⟩
  (.fork ⟨(some 36), .ld (some 2) (.t 35), none⟩
  (.fork ⟨(some 37), .call 10 [(.t 32), (.t 36)], none⟩
  (.first ⟨(some 31), .mv (.t 37), none⟩
  (.first ⟨(some 38), .ext (.t 31) 0, none⟩
  (.first ⟨(some 39), .ext (.t 31) 1, none⟩
  (.fork ⟨none, .st (some 2) (.t 9) (.t 38), none⟩
  (.first ⟨(some 10), .mv (.t 39), none⟩
  .done)
  .nope))))
  .nope)
  .nope)
  .nope))
  (.fork ⟨(some 36), .ld (some 2) (.t 35), none⟩
  (.fork ⟨(some 32), .ld (some 2) (.t 7), none⟩
  (.fork ⟨(some 37), .call 10 [(.t 32), (.t 36)], none⟩
  (.first ⟨(some 31), .mv (.t 37), none⟩
  (.first ⟨(some 38), .ext (.t 31) 0, none⟩
  (.first ⟨(some 39), .ext (.t 31) 1, none⟩
  (.fork ⟨(some 9), .alloc 36 [(.I 0), (.I 0)], none⟩
  (.fork ⟨none, .st (some 2) (.t 9) (.t 38), none⟩
  (.first ⟨(some 10), .mv (.t 39), none⟩
  .done)
  .nope)
  .nope))))
  (.fork ⟨(some 9), .alloc 36 [(.I 0), (.I 0)], none⟩
  (.fork ⟨(some 37), .call 10 [(.t 32), (.t 36)], none⟩
  (.first ⟨(some 31), .mv (.t 37), none⟩
  (.first ⟨(some 38), .ext (.t 31) 0, none⟩
  (.first ⟨(some 39), .ext (.t 31) 1, none⟩
  (.fork ⟨none, .st (some 2) (.t 9) (.t 38), none⟩
  (.first ⟨(some 10), .mv (.t 39), none⟩
  .done)
  .nope))))
  .nope)
  .nope))
  (.fork ⟨(some 9), .alloc 36 [(.I 0), (.I 0)], none⟩
  (.fork ⟨(some 32), .ld (some 2) (.t 7), none⟩
  (.fork ⟨(some 37), .call 10 [(.t 32), (.t 36)], none⟩
  (.first ⟨(some 31), .mv (.t 37), none⟩
  (.first ⟨(some 38), .ext (.t 31) 0, none⟩
  (.first ⟨(some 39), .ext (.t 31) 1, none⟩
  (.fork ⟨none, .st (some 2) (.t 9) (.t 38), none⟩
  (.first ⟨(some 10), .mv (.t 39), none⟩
  .done)
  .nope))))
  .nope)
  .nope)
  .nope))
  (.fork ⟨(some 9), .alloc 36 [(.I 0), (.I 0)], none⟩
  (.fork ⟨(some 32), .ld (some 2) (.t 7), none⟩
  (.fork ⟨(some 36), .ld (some 2) (.t 35), none⟩
  (.fork ⟨(some 37), .call 10 [(.t 32), (.t 36)], none⟩
  (.first ⟨(some 31), .mv (.t 37), none⟩
  (.first ⟨(some 38), .ext (.t 31) 0, none⟩
  (.first ⟨(some 39), .ext (.t 31) 1, none⟩
  (.fork ⟨none, .st (some 2) (.t 9) (.t 38), none⟩
  (.first ⟨(some 10), .mv (.t 39), none⟩
  .done)
  .nope))))
  .nope)
  .nope)
  (.fork ⟨(some 36), .ld (some 2) (.t 35), none⟩
  (.fork ⟨(some 32), .ld (some 2) (.t 7), none⟩
  (.fork ⟨(some 37), .call 10 [(.t 32), (.t 36)], none⟩
  (.first ⟨(some 31), .mv (.t 37), none⟩
  (.first ⟨(some 38), .ext (.t 31) 0, none⟩
  (.first ⟨(some 39), .ext (.t 31) 1, none⟩
  (.fork ⟨none, .st (some 2) (.t 9) (.t 38), none⟩
  (.first ⟨(some 10), .mv (.t 39), none⟩
  .done)
  .nope))))
  .nope)
  .nope)
  .nope))
  .nope))))))
abbrev c5_19 : AC := .reg [⟨(some 40), .mv (.t 10), none⟩] false
abbrev c5_20 : AC := .reg [⟨(some 41), .mv (.t 5), none⟩,
  ⟨(some 42), .mv (.t 6), none⟩,
  ⟨(some 43), .mv (.t 8), none⟩,
  ⟨(some 44), .build [(.I 0), (.I 0)] [(0, 1, (.t 42)), (1, 1, (.t 43))], none⟩,
  ⟨(some 45), .bslice 38 2 [(.t 44)], none⟩,
  ⟨(some 46), .app 38 2 16 (.t 41) (.t 45), none⟩,
  ⟨(some 5), .mv (.t 46), none⟩] false
abbrev c5_21 : AC := .cond (.t 40) c5_20 .skip
abbrev c5_22 : AC := .seq c5_19 c5_21
abbrev c5_23 : AC := .seq c5_18 c5_22
abbrev c5_24 : AC := .block 3 c5_23
abbrev c5_25 : AC := .reg [⟨(some 29), .mv (.t 8), none⟩,
  ⟨(some 30), .bin .add (.t 29) (.k (.I 1)), none⟩,
  ⟨(some 8), .mv (.t 30), none⟩] false
abbrev c5_26 : AC := .seq c5_24 c5_25
abbrev c5_27 : AC := .seq c5_17 c5_26
abbrev c5_28 : AC := .loop c5_27
abbrev c5_29 : AC := .block 2 c5_28
abbrev c5_30 : AC := .seq c5_14 c5_29
abbrev c5_31 : AC := .seq c5_13 c5_30
abbrev c5_32 : AC := .block 1 c5_31
abbrev c5_33 : AC := .reg [⟨(some 47), .bin .add (.t 18) (.k (.I 1)), none⟩,
  ⟨(some 18), .mv (.t 47), none⟩] false
abbrev c5_34 : AC := .seq c5_32 c5_33
abbrev c5_35 : AC := .seq c5_12 c5_34
abbrev c5_36 : AC := .seq c5_11 c5_35
abbrev c5_37 : AC := .loop c5_36
abbrev c5_38 : AC := .block 0 c5_37
abbrev c5_39 : AC := .seq c5_10 c5_38
abbrev c5_40 : AC := .reg [⟨(some 48), .mv (.t 5), none⟩,
  ⟨(some 2), .mv (.t 48), none⟩,
  ⟨(some 3), .mv (.k (.I 0)), none⟩] false
abbrev c5_41 : AC := .seq c5_40 .ret
abbrev c5_42 : AC := .seq c5_39 c5_41
abbrev c5_43 : AC := .seq c5_9 c5_42
abbrev c5_44 : AC := .seq c5_8 c5_43
abbrev c5_45 : AC := .seq c5_1 c5_44
abbrev c5 : AC := c5_45
theorem code5 : fnCode Try.prog 5 = some (c5, [2, 3], 49) := by kernel_rfl
/- coinage/coinagetop.boxesAwake -/
abbrev c4_1 : AC := .reg [⟨(some 0), .mv (.k (.B false)), none⟩] false
abbrev c4_2 : AC := .reg [⟨(some 6), .build [(.I 0), (.I 0)] [(0, 1, (.k (.I 1))), (1, 1, (.k (.I 5)))], none⟩,
  ⟨(some 7), .build [(.I 0), (.I 0)] [(0, 1, (.k (.I 3))), (1, 1, (.k (.I 9)))], none⟩,
  ⟨(some 8), .build [(.I 0), (.I 0)] [(0, 1, (.k (.I 6))), (1, 1, (.k (.I 7)))], none⟩,
  ⟨(some 9), .bslice 36 2 [(.t 6), (.t 7), (.t 8)], none⟩,
  ⟨(some 1), .mv (.t 9), none⟩] false
abbrev c4_3 : AC := .reg [⟨(some 11), .mv (.t 1), none⟩,
  ⟨(some 12), .call 6 [(.t 11)], none⟩,
  ⟨(some 10), .mv (.t 12), none⟩,
  ⟨(some 13), .ext (.t 10) 0, none⟩,
  ⟨(some 14), .ext (.t 10) 1, none⟩,
  ⟨(some 2), .mv (.t 13), none⟩,
  ⟨(some 3), .mv (.t 14), none⟩] false
abbrev c4_4 : AC := .reg [⟨(some 16), .mv (.t 1), none⟩,
  ⟨(some 17), .call 5 [(.t 16)], none⟩,
  ⟨(some 15), .mv (.t 17), none⟩,
  ⟨(some 18), .ext (.t 15) 0, none⟩,
  ⟨(some 19), .ext (.t 15) 1, none⟩,
  ⟨(some 4), .mv (.t 18), none⟩,
  ⟨(some 5), .mv (.t 19), none⟩] false
abbrev c4_5 : AC := .reg [⟨(some 20), .mv (.t 2), none⟩,
  ⟨(some 21), .bin .eql (.t 20) (.k (.I 2)), none⟩,
  ⟨(some 22), .mv (.t 21), none⟩,
  ⟨(some 23), .mv (.t 3), (some (22, true))⟩,
  ⟨(some 24), .bin .eql (.t 23) (.k (.I 0)), (some (22, true))⟩,
  ⟨(some 25), .pick (.t 22) (.t 24) (.k (.B false)), none⟩,
  ⟨(some 26), .mv (.t 25), none⟩,
  ⟨(some 27), .mv (.t 4), (some (26, true))⟩,
  ⟨(some 28), .build [(.I 0), (.I 0)] [(0, 1, (.k (.I 0))), (1, 1, (.k (.I 1)))], (some (26, true))⟩,
  ⟨(some 29), .build [(.I 0), (.I 0)] [(0, 1, (.k (.I 1))), (1, 1, (.k (.I 2)))], (some (26, true))⟩,
  ⟨(some 30), .bslice 38 2 [(.t 28), (.t 29)], (some (26, true))⟩,
  ⟨(some 31), .call 11 [(.t 27), (.t 30)], (some (26, true))⟩,
  ⟨(some 32), .pick (.t 26) (.t 31) (.k (.B false)), none⟩,
  ⟨(some 33), .mv (.t 32), none⟩,
  ⟨(some 34), .mv (.t 5), (some (33, true))⟩,
  ⟨(some 35), .bin .eql (.t 34) (.k (.I 0)), (some (33, true))⟩,
  ⟨(some 36), .pick (.t 33) (.t 35) (.k (.B false)), none⟩,
  ⟨(some 0), .mv (.t 36), none⟩] false
abbrev c4_6 : AC := .seq c4_5 .ret
abbrev c4_7 : AC := .seq c4_4 c4_6
abbrev c4_8 : AC := .seq c4_3 c4_7
abbrev c4_9 : AC := .seq c4_2 c4_8
abbrev c4_10 : AC := .seq c4_1 c4_9
abbrev c4 : AC := c4_10
theorem code4 : fnCode Try.prog 4 = some (c4, [0], 37) := by kernel_rfl

/-! ### Boxes -/
theorem cnt_take (l : List Yr) (t : Int) (k : Nat) (h : k < l.length) : cntY (l.take (k + 1)) t = cntY (l.take k) t + (if (nth l k).1 ≤ t ∧ t ≤ (nth l k).2 then 1 else 0) := by
  unfold cntY
  rw [List.take_succ_eq_append_getElem h, List.filter_append, List.length_append, nth_eq l k h]
  congr 1
  simp only [List.filter_cons, List.filter_nil]
  by_cases h1 : (l[k]).1 ≤ t <;> by_cases h2 : t ≤ (l[k]).2 <;> simp [h1, h2]
def bxN (l : List Yr) (i : Nat) : Nat := ((l.take i).map fun a => cntY l a.1).foldl max 0
theorem bxN_succ (l : List Yr) (i : Nat) (h : i < l.length) : bxN l (i + 1) = max (bxN l i) (cntY l (nth l i).1) := by
  unfold bxN
  rw [List.take_succ_eq_append_getElem h, List.map_append, List.foldl_append, nth_eq l i h]; rfl
theorem cnt_len (l : List Yr) (t : Int) : cntY l t ≤ l.length := List.length_filter_le _ _
theorem bxN_len (l : List Yr) (i : Nat) : bxN l i ≤ l.length := by
  unfold bxN
  rcases foldl_max_at ((l.take i).map fun a => cntY l a.1) 0 with h | h
  · rw [h]; omega
  · rw [List.mem_map] at h
    obtain ⟨a, _, e⟩ := h
    rw [← e]; exact cnt_len l a.1
theorem x6e (l : List Yr) (hl : l.length ≤ 9) (h1 : chY l = 1) : FnR Try.prog 6 [.c (Yrs l)] [.c (.I 0), .c (.I 1)] := by
  have g := x12 l hl
  rw [h1] at g
  refine fn_walk code6 (by simp) ?_
  (repeat' (first | refine NextAt.mk (fun hc => ?_) (fun pre n v post hc hkey => ?_) | refine Sni.mk (fun hc => ?_) ?_ | refine Both.mk ?_ ?_ | refine AW_seq ?_ | refine AW_block ?_ | ((first | refine AW_reg ?_ | refine AW_cond ?_ | refine AW_skip ?_ | refine AW_exit ?_ | refine AW_ret ?_ | refine AW_regD (by kernel_rfl) ?_ | refine AW_regX (by kernel_rfl) ?_ | refine CallAtG.t (Eq.refl true) ?_ | refine CallAtG.f (Eq.refl false) ?_ | refine CallAt.mk _ (g ..) (by first | (intro h; cases h; done) | (intro _; repeat' (first | exact List.forall_mem_nil _ | trivial | refine List.forall_mem_cons.2 ⟨?_, ?_⟩)) | (intro _; simp [RV.flatP, CD.flatP]; done)) ?_ | refine CallAtG.mk _ (fun _ => g ..) ?_ | refine CallDS.mk _ (by simp [RV.data]) (fun _ => g ..) (by first | (intro h; cases h; done) | (intro _; repeat' (first | exact List.forall_mem_nil _ | trivial | refine List.forall_mem_cons.2 ⟨?_, ?_⟩)) | (intro _; simp [RV.flatP, CD.flatP]; done)) ?_); try simp (disch := omega) only [go_sem, seval, reduceCtorEq, ↓reduceIte, beq_dec, Int.toNat_natCast, IntKind.signed, IntKind.bits]) | refine And.intro (fun hc => (?_ : AW _ _ _ _)) (fun hc => (?_ : AW _ _ _ _)) | simp (disch := omega) only [go_sem, seval, reduceCtorEq, ↓reduceIte, beq_dec, Int.toNat_natCast, IntKind.signed, IntKind.bits] | (refine And.intro ?_ ?_; focus (first | (intros; omega) | (intros; simp_all; done))) | refine And.intro (?_ : CallAt _ _ _ _ _ _ _ _) ?_ | refine And.intro (?_ : CallAt _ _ _ _ _ _ _ _ ∧ _) ?_ | refine And.intro (?_ : AW _ _ _ _) ?_ | fail))
set_option maxHeartbeats 4000000 in
theorem x6 (l : List Yr) (hl : l.length ≤ 9) (h1 : chY l = 0) : FnR Try.prog 6 [.c (Yrs l)] [.c (.I (boxN l)), .c (.I 0)] := by
  have g := x12 l hl
  rw [h1] at g
  have hb : boxN l = bxN l l.length := by unfold bxN boxN; rw [List.take_length]
  rw [hb]
  refine fn_walk code6 (by simp) ?_
  (repeat' (first | refine NextAt.mk (fun hc => ?_) (fun pre n v post hc hkey => ?_) | refine Sni.mk (fun hc => ?_) ?_ | refine Both.mk ?_ ?_ | refine AW_seq ?_ | refine AW_block ?_ | ((first | refine AW_reg ?_ | refine AW_cond ?_ | refine AW_skip ?_ | refine AW_exit ?_ | refine AW_ret ?_ | refine AW_regD (by kernel_rfl) ?_ | refine AW_regX (by kernel_rfl) ?_ | refine CallAtG.t (Eq.refl true) ?_ | refine CallAtG.f (Eq.refl false) ?_ | refine CallAt.mk _ (g ..) (by first | (intro h; cases h; done) | (intro _; repeat' (first | exact List.forall_mem_nil _ | trivial | refine List.forall_mem_cons.2 ⟨?_, ?_⟩)) | (intro _; simp [RV.flatP, CD.flatP]; done)) ?_ | refine CallAtG.mk _ (fun _ => g ..) ?_ | refine CallDS.mk _ (by simp [RV.data]) (fun _ => g ..) (by first | (intro h; cases h; done) | (intro _; repeat' (first | exact List.forall_mem_nil _ | trivial | refine List.forall_mem_cons.2 ⟨?_, ?_⟩)) | (intro _; simp [RV.flatP, CD.flatP]; done)) ?_); try simp (disch := omega) only [go_sem, seval, reduceCtorEq, ↓reduceIte, beq_dec, Int.toNat_natCast, IntKind.signed, IntKind.bits]) | refine And.intro (fun hc => (?_ : AW _ _ _ _)) (fun hc => (?_ : AW _ _ _ _)) | simp (disch := omega) only [go_sem, seval, reduceCtorEq, ↓reduceIte, beq_dec, Int.toNat_natCast, IntKind.signed, IntKind.bits] | (refine And.intro ?_ ?_; focus (first | (intros; omega) | (intros; simp_all; done))) | refine And.intro (?_ : CallAt _ _ _ _ _ _ _ _) ?_ | refine And.intro (?_ : CallAt _ _ _ _ _ _ _ _ ∧ _) ?_ | refine And.intro (?_ : AW _ _ _ _) ?_ | fail))
  refine AW_loopK [0, 16, 17] [5, 7, 8, 10, 18, 19, 20, 21, 22, 23, 24, 25, 26, 27, 28, 29, 30, 31, 32, 33, 34, 35, 36, 37, 38, 39, 40, 41, 42, 43, 44, 45, 46] (fun i : Nat => i ≤ l.length) (fun i => [(5, .I (bxN l i : Nat)), (18, .I i)]) (fun _ => []) (fun i => l.length - i) 0 (by omega) ?_ ?_
  · simp (disch := omega) only [go_sem, seval, reduceCtorEq, ↓reduceIte, beq_dec, Int.toNat_natCast, IntKind.signed, IntKind.bits, Int.natCast_zero, bxN, List.take_zero, List.map_nil, List.foldl_nil]
  · intro i hi
    rcases Nat.lt_or_ge i l.length with hil | hil
    · have hge := getD_map yc l i [] hil
      have hkk : ((i : Int) < (l.length : Int)) = True := eq_true (by omega)
      have hbs := bxN_succ l i hil
      have hbl := bxN_len l i
      generalize bxN l i = B at *
      (repeat' (first | refine NextAt.mk (fun hc => ?_) (fun pre n v post hc hkey => ?_) | refine Sni.mk (fun hc => ?_) ?_ | refine Both.mk ?_ ?_ | refine AW_seq ?_ | refine AW_block ?_ | ((first | refine AW_reg ?_ | refine AW_cond ?_ | refine AW_skip ?_ | refine AW_exit ?_ | refine AW_ret ?_ | refine AW_regD (by kernel_rfl) ?_ | refine AW_regX (by kernel_rfl) ?_ | refine CallAtG.t (Eq.refl true) ?_ | refine CallAtG.f (Eq.refl false) ?_); try simp (disch := omega) only [go_sem, seval, reduceCtorEq, ↓reduceIte, beq_dec, Int.toNat_natCast, IntKind.signed, IntKind.bits, hge, yc, Int.toNat_natCast, List.length_map, hkk]) | refine And.intro (fun hc => (?_ : AW _ _ _ _)) (fun hc => (?_ : AW _ _ _ _)) | simp (disch := omega) only [go_sem, seval, reduceCtorEq, ↓reduceIte, beq_dec, Int.toNat_natCast, IntKind.signed, IntKind.bits, hge, yc, Int.toNat_natCast, List.length_map, hkk] | (refine And.intro ?_ ?_; focus (first | (intros; omega) | (intros; simp_all; done))) | refine And.intro (?_ : CallAt _ _ _ _ _ _ _ _) ?_ | refine And.intro (?_ : CallAt _ _ _ _ _ _ _ _ ∧ _) ?_ | refine And.intro (?_ : AW _ _ _ _) ?_ | fail))
      refine AW_loopK [0, 5, 7, 16, 17, 18, 22, 23] [8, 10, 24, 25, 26, 27, 28, 29, 30, 31, 32, 33, 34, 35, 36, 37, 38, 39, 40, 41, 42] (fun k : Nat => k ≤ l.length) (fun k => [(8, .I (cntY (l.take k) (nth l i).1 : Nat)), (24, .I k)]) (fun _ => [(7, .box 36 [.I (nth l i).1, .I (nth l i).2])]) (fun k => l.length - k) 0 (by omega) ?_ ?_
      · simp (disch := omega) only [go_sem, seval, reduceCtorEq, ↓reduceIte, beq_dec, Int.toNat_natCast, IntKind.signed, IntKind.bits, Int.natCast_zero, cntY, List.take_zero, List.filter_nil, List.length_nil]
      · intro k hk
        rcases Nat.lt_or_ge k l.length with hkl | hkl
        · have hge2 := getD_map yc l k [] hkl
          have hkk2 : ((k : Int) < (l.length : Int)) = True := eq_true (by omega)
          have hcs := cnt_take l (nth l i).1 k hkl
          have hcl := cnt_len (l.take k) (nth l i).1
          rw [List.length_take] at hcl
          generalize hc0 : cntY (l.take k) (nth l i).1 = C at *
          by_cases g1 : (nth l k).1 ≤ (nth l i).1
          · have e1 := eq_true g1
            by_cases g2 : (nth l i).1 ≤ (nth l k).2
            · have e2 := eq_true g2
              rw [if_pos ⟨g1, g2⟩] at hcs
              (repeat' (first | refine NextAt.mk (fun hc => ?_) (fun pre n v post hc hkey => ?_) | refine Sni.mk (fun hc => ?_) ?_ | refine Both.mk ?_ ?_ | refine AW_seq ?_ | refine AW_block ?_ | ((first | refine AW_reg ?_ | refine AW_cond ?_ | refine AW_skip ?_ | refine AW_exit ?_ | refine AW_ret ?_ | refine AW_regD (by kernel_rfl) ?_ | refine AW_regX (by kernel_rfl) ?_ | refine CallAtG.t (Eq.refl true) ?_ | refine CallAtG.f (Eq.refl false) ?_); try simp (disch := omega) only [go_sem, seval, reduceCtorEq, ↓reduceIte, beq_dec, Int.toNat_natCast, IntKind.signed, IntKind.bits, hge2, yc, Int.toNat_natCast, List.length_map, hkk2, e1, e2]) | refine And.intro (fun hc => (?_ : AW _ _ _ _)) (fun hc => (?_ : AW _ _ _ _)) | simp (disch := omega) only [go_sem, seval, reduceCtorEq, ↓reduceIte, beq_dec, Int.toNat_natCast, IntKind.signed, IntKind.bits, hge2, yc, Int.toNat_natCast, List.length_map, hkk2, e1, e2] | (refine And.intro ?_ ?_; focus (first | (intros; omega) | (intros; simp_all; done))) | refine And.intro (?_ : CallAt _ _ _ _ _ _ _ _) ?_ | refine And.intro (?_ : CallAt _ _ _ _ _ _ _ _ ∧ _) ?_ | refine And.intro (?_ : AW _ _ _ _) ?_ | fail))
              refine .mk (k + 1) (by omega) (by omega) ?_
              rw [hcs]
              simp (disch := omega) only [go_sem, seval, reduceCtorEq, ↓reduceIte, beq_dec, Int.toNat_natCast, IntKind.signed, IntKind.bits, Int.natCast_add, Int.natCast_one]
            · have e2 := eq_false g2
              rw [if_neg (fun h => g2 h.2)] at hcs
              (repeat' (first | refine NextAt.mk (fun hc => ?_) (fun pre n v post hc hkey => ?_) | refine Sni.mk (fun hc => ?_) ?_ | refine Both.mk ?_ ?_ | refine AW_seq ?_ | refine AW_block ?_ | ((first | refine AW_reg ?_ | refine AW_cond ?_ | refine AW_skip ?_ | refine AW_exit ?_ | refine AW_ret ?_ | refine AW_regD (by kernel_rfl) ?_ | refine AW_regX (by kernel_rfl) ?_ | refine CallAtG.t (Eq.refl true) ?_ | refine CallAtG.f (Eq.refl false) ?_); try simp (disch := omega) only [go_sem, seval, reduceCtorEq, ↓reduceIte, beq_dec, Int.toNat_natCast, IntKind.signed, IntKind.bits, hge2, yc, Int.toNat_natCast, List.length_map, hkk2, e1, e2]) | refine And.intro (fun hc => (?_ : AW _ _ _ _)) (fun hc => (?_ : AW _ _ _ _)) | simp (disch := omega) only [go_sem, seval, reduceCtorEq, ↓reduceIte, beq_dec, Int.toNat_natCast, IntKind.signed, IntKind.bits, hge2, yc, Int.toNat_natCast, List.length_map, hkk2, e1, e2] | (refine And.intro ?_ ?_; focus (first | (intros; omega) | (intros; simp_all; done))) | refine And.intro (?_ : CallAt _ _ _ _ _ _ _ _) ?_ | refine And.intro (?_ : CallAt _ _ _ _ _ _ _ _ ∧ _) ?_ | refine And.intro (?_ : AW _ _ _ _) ?_ | fail))
              refine .mk (k + 1) (by omega) (by omega) ?_
              rw [hcs, Nat.add_zero]
              simp (disch := omega) only [go_sem, seval, reduceCtorEq, ↓reduceIte, beq_dec, Int.toNat_natCast, IntKind.signed, IntKind.bits, Int.natCast_add, Int.natCast_one]
          · have e1 := eq_false g1
            rw [if_neg (fun h => g1 h.1)] at hcs
            (repeat' (first | refine NextAt.mk (fun hc => ?_) (fun pre n v post hc hkey => ?_) | refine Sni.mk (fun hc => ?_) ?_ | refine Both.mk ?_ ?_ | refine AW_seq ?_ | refine AW_block ?_ | ((first | refine AW_reg ?_ | refine AW_cond ?_ | refine AW_skip ?_ | refine AW_exit ?_ | refine AW_ret ?_ | refine AW_regD (by kernel_rfl) ?_ | refine AW_regX (by kernel_rfl) ?_ | refine CallAtG.t (Eq.refl true) ?_ | refine CallAtG.f (Eq.refl false) ?_); try simp (disch := omega) only [go_sem, seval, reduceCtorEq, ↓reduceIte, beq_dec, Int.toNat_natCast, IntKind.signed, IntKind.bits, hge2, yc, Int.toNat_natCast, List.length_map, hkk2, e1]) | refine And.intro (fun hc => (?_ : AW _ _ _ _)) (fun hc => (?_ : AW _ _ _ _)) | simp (disch := omega) only [go_sem, seval, reduceCtorEq, ↓reduceIte, beq_dec, Int.toNat_natCast, IntKind.signed, IntKind.bits, hge2, yc, Int.toNat_natCast, List.length_map, hkk2, e1] | (refine And.intro ?_ ?_; focus (first | (intros; omega) | (intros; simp_all; done))) | refine And.intro (?_ : CallAt _ _ _ _ _ _ _ _) ?_ | refine And.intro (?_ : CallAt _ _ _ _ _ _ _ _ ∧ _) ?_ | refine And.intro (?_ : AW _ _ _ _) ?_ | fail))
            refine .mk (k + 1) (by omega) (by omega) ?_
            rw [hcs, Nat.add_zero]
            simp (disch := omega) only [go_sem, seval, reduceCtorEq, ↓reduceIte, beq_dec, Int.toNat_natCast, IntKind.signed, IntKind.bits, Int.natCast_add, Int.natCast_one]
        · obtain rfl : k = l.length := by omega
          rw [List.take_length]
          have hkk2 : ((l.length : Int) < (l.length : Int)) = False := eq_false (by omega)
          have hcl := cnt_len l (nth l i).1
          generalize cntY l (nth l i).1 = C at *
          have hmx : max (B : Int) (C : Int) = ((max B C : Nat) : Int) := by omega
          (repeat' (first | refine NextAt.mk (fun hc => ?_) (fun pre n v post hc hkey => ?_) | refine Sni.mk (fun hc => ?_) ?_ | refine Both.mk ?_ ?_ | refine AW_seq ?_ | refine AW_block ?_ | ((first | refine AW_reg ?_ | refine AW_cond ?_ | refine AW_skip ?_ | refine AW_exit ?_ | refine AW_ret ?_ | refine AW_regD (by kernel_rfl) ?_ | refine AW_regX (by kernel_rfl) ?_ | refine CallAtG.t (Eq.refl true) ?_ | refine CallAtG.f (Eq.refl false) ?_); try simp (disch := omega) only [go_sem, seval, reduceCtorEq, ↓reduceIte, beq_dec, Int.toNat_natCast, IntKind.signed, IntKind.bits, List.length_map, hkk2, hmx]) | refine And.intro (fun hc => (?_ : AW _ _ _ _)) (fun hc => (?_ : AW _ _ _ _)) | simp (disch := omega) only [go_sem, seval, reduceCtorEq, ↓reduceIte, beq_dec, Int.toNat_natCast, IntKind.signed, IntKind.bits, List.length_map, hkk2, hmx] | (refine And.intro ?_ ?_; focus (first | (intros; omega) | (intros; simp_all; done))) | refine And.intro (?_ : CallAt _ _ _ _ _ _ _ _) ?_ | refine And.intro (?_ : CallAt _ _ _ _ _ _ _ _ ∧ _) ?_ | refine And.intro (?_ : AW _ _ _ _) ?_ | fail))
          refine .mk (i + 1) (by omega) (by omega) ?_
          rw [hbs]
          simp (disch := omega) only [go_sem, seval, reduceCtorEq, ↓reduceIte, beq_dec, Int.toNat_natCast, IntKind.signed, IntKind.bits, Int.natCast_add, Int.natCast_one]
    · obtain rfl : i = l.length := by omega
      have hkk : ((l.length : Int) < (l.length : Int)) = False := eq_false (by omega)
      (repeat' (first | refine NextAt.mk (fun hc => ?_) (fun pre n v post hc hkey => ?_) | refine Sni.mk (fun hc => ?_) ?_ | refine Both.mk ?_ ?_ | refine AW_seq ?_ | refine AW_block ?_ | ((first | refine AW_reg ?_ | refine AW_cond ?_ | refine AW_skip ?_ | refine AW_exit ?_ | refine AW_ret ?_ | refine AW_regD (by kernel_rfl) ?_ | refine AW_regX (by kernel_rfl) ?_ | refine CallAtG.t (Eq.refl true) ?_ | refine CallAtG.f (Eq.refl false) ?_); try simp (disch := omega) only [go_sem, seval, reduceCtorEq, ↓reduceIte, beq_dec, Int.toNat_natCast, IntKind.signed, IntKind.bits, List.length_map, hkk]) | refine And.intro (fun hc => (?_ : AW _ _ _ _)) (fun hc => (?_ : AW _ _ _ _)) | simp (disch := omega) only [go_sem, seval, reduceCtorEq, ↓reduceIte, beq_dec, Int.toNat_natCast, IntKind.signed, IntKind.bits, List.length_map, hkk] | (refine And.intro ?_ ?_; focus (first | (intros; omega) | (intros; simp_all; done))) | refine And.intro (?_ : CallAt _ _ _ _ _ _ _ _) ?_ | refine And.intro (?_ : CallAt _ _ _ _ _ _ _ _ ∧ _) ?_ | refine And.intro (?_ : AW _ _ _ _) ?_ | fail))
theorem x11 (p : List (Nat × Nat)) (hp : p.length ≤ 1000) : FnR Try.prog 11 [.c (PR p), .c (PR p)] [.c (.B true)] := by
  refine fn_walk code11 (by simp) ?_
  (repeat' (first | refine NextAt.mk (fun hc => ?_) (fun pre n v post hc hkey => ?_) | refine Sni.mk (fun hc => ?_) ?_ | refine Both.mk ?_ ?_ | refine AW_seq ?_ | refine AW_block ?_ | ((first | refine AW_reg ?_ | refine AW_cond ?_ | refine AW_skip ?_ | refine AW_exit ?_ | refine AW_ret ?_ | refine AW_regD (by kernel_rfl) ?_ | refine AW_regX (by kernel_rfl) ?_ | refine CallAtG.t (Eq.refl true) ?_ | refine CallAtG.f (Eq.refl false) ?_); try simp (disch := omega) only [go_sem, seval, reduceCtorEq, ↓reduceIte, beq_dec, Int.toNat_natCast, IntKind.signed, IntKind.bits]) | refine And.intro (fun hc => (?_ : AW _ _ _ _)) (fun hc => (?_ : AW _ _ _ _)) | simp (disch := omega) only [go_sem, seval, reduceCtorEq, ↓reduceIte, beq_dec, Int.toNat_natCast, IntKind.signed, IntKind.bits] | (refine And.intro ?_ ?_; focus (first | (intros; omega) | (intros; simp_all; done))) | refine And.intro (?_ : CallAt _ _ _ _ _ _ _ _) ?_ | refine And.intro (?_ : CallAt _ _ _ _ _ _ _ _ ∧ _) ?_ | refine And.intro (?_ : AW _ _ _ _) ?_ | fail))
  refine AW_loopK [0, 1] [4, 5, 11, 12, 13, 14, 15, 16, 17, 18, 19, 20, 21, 22, 23, 24, 25] (fun i : Nat => i ≤ p.length) (fun i => [(5, .I i)]) (fun _ => []) (fun i => p.length - i) 0 (by omega) ?_ ?_
  · simp (disch := omega) only [go_sem, seval, reduceCtorEq, ↓reduceIte, beq_dec, Int.toNat_natCast, IntKind.signed, IntKind.bits, Int.natCast_zero]
  · intro i hi
    rcases Nat.lt_or_ge i p.length with hil | hil
    · have hge := getD_map pc p i [] hil
      have hkk : ((i : Int) < (p.length : Int)) = True := eq_true (by omega)
      (repeat' (first | refine NextAt.mk (fun hc => ?_) (fun pre n v post hc hkey => ?_) | refine Sni.mk (fun hc => ?_) ?_ | refine Both.mk ?_ ?_ | refine AW_seq ?_ | refine AW_block ?_ | ((first | refine AW_reg ?_ | refine AW_cond ?_ | refine AW_skip ?_ | refine AW_exit ?_ | refine AW_ret ?_ | refine AW_regD (by kernel_rfl) ?_ | refine AW_regX (by kernel_rfl) ?_ | refine CallAtG.t (Eq.refl true) ?_ | refine CallAtG.f (Eq.refl false) ?_); try simp (disch := omega) only [go_sem, seval, reduceCtorEq, ↓reduceIte, beq_dec, Int.toNat_natCast, IntKind.signed, IntKind.bits, hge, pc, Int.toNat_natCast, List.length_map, hkk]) | refine And.intro (fun hc => (?_ : AW _ _ _ _)) (fun hc => (?_ : AW _ _ _ _)) | simp (disch := omega) only [go_sem, seval, reduceCtorEq, ↓reduceIte, beq_dec, Int.toNat_natCast, IntKind.signed, IntKind.bits, hge, pc, Int.toNat_natCast, List.length_map, hkk] | (refine And.intro ?_ ?_; focus (first | (intros; omega) | (intros; simp_all; done))) | refine And.intro (?_ : CallAt _ _ _ _ _ _ _ _) ?_ | refine And.intro (?_ : CallAt _ _ _ _ _ _ _ _ ∧ _) ?_ | refine And.intro (?_ : AW _ _ _ _) ?_ | fail))
      refine .mk (i + 1) (by omega) (by omega) ?_
      simp (disch := omega) only [go_sem, seval, reduceCtorEq, ↓reduceIte, beq_dec, Int.toNat_natCast, IntKind.signed, IntKind.bits, Int.natCast_add, Int.natCast_one]
    · obtain rfl : i = p.length := by omega
      have hkk : ((p.length : Int) < (p.length : Int)) = False := eq_false (by omega)
      (repeat' (first | refine NextAt.mk (fun hc => ?_) (fun pre n v post hc hkey => ?_) | refine Sni.mk (fun hc => ?_) ?_ | refine Both.mk ?_ ?_ | refine AW_seq ?_ | refine AW_block ?_ | ((first | refine AW_reg ?_ | refine AW_cond ?_ | refine AW_skip ?_ | refine AW_exit ?_ | refine AW_ret ?_ | refine AW_regD (by kernel_rfl) ?_ | refine AW_regX (by kernel_rfl) ?_ | refine CallAtG.t (Eq.refl true) ?_ | refine CallAtG.f (Eq.refl false) ?_); try simp (disch := omega) only [go_sem, seval, reduceCtorEq, ↓reduceIte, beq_dec, Int.toNat_natCast, IntKind.signed, IntKind.bits, List.length_map, hkk]) | refine And.intro (fun hc => (?_ : AW _ _ _ _)) (fun hc => (?_ : AW _ _ _ _)) | simp (disch := omega) only [go_sem, seval, reduceCtorEq, ↓reduceIte, beq_dec, Int.toNat_natCast, IntKind.signed, IntKind.bits, List.length_map, hkk] | (refine And.intro ?_ ?_; focus (first | (intros; omega) | (intros; simp_all; done))) | refine And.intro (?_ : CallAt _ _ _ _ _ _ _ _) ?_ | refine And.intro (?_ : CallAt _ _ _ _ _ _ _ _ ∧ _) ?_ | refine And.intro (?_ : AW _ _ _ _) ?_ | fail))
/-! ### Overlaps -/
theorem vY_mt {a b : Yr} (ha : vY a = true) (hb : vY b = true) : vY (mtY a b) = (decide (a.1 ≤ b.2) && decide (b.1 ≤ a.2)) := by
  have h1 := vY_iff.1 ha
  have h2 := vY_iff.1 hb
  unfold okY at h1 h2
  rw [Bool.eq_iff_iff, vY_iff]
  unfold okY mtY
  simp only [Bool.and_eq_true, decide_eq_true_eq]
  omega
def in5 (l : List Yr) (i k : Nat) (rows : List (List CD)) : St := ⟨49, [(0, .c (Yrs l)), (5, .own 900), (6, .I i), (7, .ptr 7 0), (8, .I k), (16, .c (Yrs l)), (17, .I l.length), (18, .I i)], [(7, .box 36 [.I (nth l i).1, .I (nth l i).2]), (900, .arr 38 2 rows)]⟩
def ou5 (l : List Yr) (i k : Nat) (rows : List (List CD)) (ok : Bool) : St := ⟨49, [(0, .c (Yrs l)), (5, .own 900), (6, .I i), (7, .ptr 7 0), (8, .I k), (10, .c (.B ok)), (16, .c (Yrs l)), (17, .I l.length), (18, .I i)], [(7, .box 36 [.I (nth l i).1, .I (nth l i).2]), (900, .arr 38 2 rows)]⟩
set_option maxHeartbeats 40000000 in
theorem r5 (l : List Yr) (i k : Nat) (rows : List (List CD)) (ok : Bool) (p q : Int) (hk : k < l.length) (g : FnR Try.prog 10 [yv (nth l i), yv (nth l k)] [.agg [.I p, .I q], .c (.B ok)]) : AW Try.prog c5_18 (cutQ (ou5 l i k rows ok)) (in5 l i k rows) := by
  have hge := getD_map yc l k [] hk
  refine AW_regX (by kernel_rfl) ?_
  unfold in5
  (repeat' (first | refine NextAt.mk (fun hc => ?_) (fun pre n v post hc hkey => ?_) | refine Sni.mk (fun hc => ?_) ?_ | refine Both.mk ?_ ?_ | refine AW_seq ?_ | refine AW_block ?_ | ((first | refine AW_reg ?_ | refine AW_cond ?_ | refine AW_skip ?_ | refine AW_exit ?_ | refine AW_ret ?_ | refine AW_regD (by kernel_rfl) ?_ | refine AW_regX (by kernel_rfl) ?_ | refine CallAtG.t (Eq.refl true) ?_ | refine CallAtG.f (Eq.refl false) ?_); try simp (disch := omega) only [go_sem, seval, reduceCtorEq, ↓reduceIte, beq_dec, Int.toNat_natCast, IntKind.signed, IntKind.bits, ou5, hge, yc, Int.toNat_natCast, List.length_map]) | refine And.intro (fun hc => (?_ : AW _ _ _ _)) (fun hc => (?_ : AW _ _ _ _)) | simp (disch := omega) only [go_sem, seval, reduceCtorEq, ↓reduceIte, beq_dec, Int.toNat_natCast, IntKind.signed, IntKind.bits, ou5, hge, yc, Int.toNat_natCast, List.length_map] | (refine And.intro ?_ ?_; focus (first | (intros; omega) | (intros; simp_all; done))) | refine And.intro (?_ : CallAt _ _ _ _ _ _ _ _) ?_ | refine And.intro (?_ : CallAt _ _ _ _ _ _ _ _ ∧ _) ?_ | refine And.intro (?_ : AW _ _ _ _) ?_ | fail))
  repeat' apply And.intro
  all_goals ((repeat' (first | refine NextAt.mk (fun hc => ?_) (fun pre n v post hc hkey => ?_) | refine Sni.mk (fun hc => ?_) ?_ | refine Both.mk ?_ ?_ | refine AW_seq ?_ | refine AW_block ?_ | ((first | refine AW_reg ?_ | refine AW_cond ?_ | refine AW_skip ?_ | refine AW_exit ?_ | refine AW_ret ?_ | refine AW_regD (by kernel_rfl) ?_ | refine AW_regX (by kernel_rfl) ?_ | refine CallAtG.t (Eq.refl true) ?_ | refine CallAtG.f (Eq.refl false) ?_ | refine CallAt.mk _ (g ..) (by first | (intro h; cases h; done) | (intro _; repeat' (first | exact List.forall_mem_nil _ | trivial | refine List.forall_mem_cons.2 ⟨?_, ?_⟩)) | (intro _; simp [RV.flatP, CD.flatP, ou5]; done)) ?_ | refine CallAtG.mk _ (fun _ => g ..) ?_ | refine CallDS.mk _ (by simp [RV.data]) (fun _ => g ..) (by first | (intro h; cases h; done) | (intro _; repeat' (first | exact List.forall_mem_nil _ | trivial | refine List.forall_mem_cons.2 ⟨?_, ?_⟩)) | (intro _; simp [RV.flatP, CD.flatP, ou5]; done)) ?_); try simp (disch := omega) only [go_sem, seval, reduceCtorEq, ↓reduceIte, beq_dec, Int.toNat_natCast, IntKind.signed, IntKind.bits, ou5]) | refine And.intro (fun hc => (?_ : AW _ _ _ _)) (fun hc => (?_ : AW _ _ _ _)) | simp (disch := omega) only [go_sem, seval, reduceCtorEq, ↓reduceIte, beq_dec, Int.toNat_natCast, IntKind.signed, IntKind.bits, ou5] | (refine And.intro ?_ ?_; focus (first | (intros; omega) | (intros; simp_all; done))) | refine And.intro (?_ : CallAt _ _ _ _ _ _ _ _) ?_ | refine And.intro (?_ : CallAt _ _ _ _ _ _ _ _ ∧ _) ?_ | refine And.intro (?_ : AW _ _ _ _) ?_ | fail)))
theorem hold5 {Q : Exit → St → Prop} {σ : St} (h : Hold (AW Try.prog c5_18 Q σ)) : AW Try.prog c5_18 Q σ := h.out
abbrev pcs (p : List (Nat × Nat)) : List (List CD) := p.map pc
theorem x5e (l : List Yr) (hl : l.length ≤ 9) (h1 : chY l = 1) : FnR Try.prog 5 [.c (Yrs l)] [.c .nil, .c (.I 1)] := by
  have g := x12 l hl
  rw [h1] at g
  refine fn_walk code5 (by simp) ?_
  (repeat' (first | refine NextAt.mk (fun hc => ?_) (fun pre n v post hc hkey => ?_) | refine Sni.mk (fun hc => ?_) ?_ | refine Both.mk ?_ ?_ | refine AW_seq ?_ | refine AW_block ?_ | ((first | refine AW_reg ?_ | refine AW_cond ?_ | refine AW_skip ?_ | refine AW_exit ?_ | refine AW_ret ?_ | refine AW_regD (by kernel_rfl) ?_ | refine AW_regX (by kernel_rfl) ?_ | refine CallAtG.t (Eq.refl true) ?_ | refine CallAtG.f (Eq.refl false) ?_ | refine CallAt.mk _ (g ..) (by first | (intro h; cases h; done) | (intro _; repeat' (first | exact List.forall_mem_nil _ | trivial | refine List.forall_mem_cons.2 ⟨?_, ?_⟩)) | (intro _; simp [RV.flatP, CD.flatP]; done)) ?_ | refine CallAtG.mk _ (fun _ => g ..) ?_ | refine CallDS.mk _ (by simp [RV.data]) (fun _ => g ..) (by first | (intro h; cases h; done) | (intro _; repeat' (first | exact List.forall_mem_nil _ | trivial | refine List.forall_mem_cons.2 ⟨?_, ?_⟩)) | (intro _; simp [RV.flatP, CD.flatP]; done)) ?_); try simp (disch := omega) only [go_sem, seval, reduceCtorEq, ↓reduceIte, beq_dec, Int.toNat_natCast, IntKind.signed, IntKind.bits]) | refine And.intro (fun hc => (?_ : AW _ _ _ _)) (fun hc => (?_ : AW _ _ _ _)) | simp (disch := omega) only [go_sem, seval, reduceCtorEq, ↓reduceIte, beq_dec, Int.toNat_natCast, IntKind.signed, IntKind.bits] | (refine And.intro ?_ ?_; focus (first | (intros; omega) | (intros; simp_all; done))) | refine And.intro (?_ : CallAt _ _ _ _ _ _ _ _) ?_ | refine And.intro (?_ : CallAt _ _ _ _ _ _ _ _ ∧ _) ?_ | refine And.intro (?_ : AW _ _ _ _) ?_ | fail))
set_option maxHeartbeats 4000000 in
theorem x5 (l : List Yr) (hl : l.length ≤ 9) (h1 : chY l = 0) : FnR Try.prog 5 [.c (Yrs l)] [.c (PR (ovs l)), .c (.I 0)] := by
  have g := x12 l hl
  have hv := chY_ok h1
  rw [h1] at g
  refine fn_walk code5 (by simp) ?_
  (repeat' (first | refine NextAt.mk (fun hc => ?_) (fun pre n v post hc hkey => ?_) | refine Sni.mk (fun hc => ?_) ?_ | refine Both.mk ?_ ?_ | refine AW_seq ?_ | refine AW_block ?_ | ((first | refine AW_reg ?_ | refine AW_cond ?_ | refine AW_skip ?_ | refine AW_exit ?_ | refine AW_ret ?_ | refine AW_regD (by kernel_rfl) ?_ | refine AW_regX (by kernel_rfl) ?_ | refine CallAtG.t (Eq.refl true) ?_ | refine CallAtG.f (Eq.refl false) ?_ | refine CallAt.mk _ (g ..) (by first | (intro h; cases h; done) | (intro _; repeat' (first | exact List.forall_mem_nil _ | trivial | refine List.forall_mem_cons.2 ⟨?_, ?_⟩)) | (intro _; simp [RV.flatP, CD.flatP]; done)) ?_ | refine CallAtG.mk _ (fun _ => g ..) ?_ | refine CallDS.mk _ (by simp [RV.data]) (fun _ => g ..) (by first | (intro h; cases h; done) | (intro _; repeat' (first | exact List.forall_mem_nil _ | trivial | refine List.forall_mem_cons.2 ⟨?_, ?_⟩)) | (intro _; simp [RV.flatP, CD.flatP]; done)) ?_); try simp (disch := omega) only [go_sem, seval, reduceCtorEq, ↓reduceIte, beq_dec, Int.toNat_natCast, IntKind.signed, IntKind.bits]) | refine And.intro (fun hc => (?_ : AW _ _ _ _)) (fun hc => (?_ : AW _ _ _ _)) | simp (disch := omega) only [go_sem, seval, reduceCtorEq, ↓reduceIte, beq_dec, Int.toNat_natCast, IntKind.signed, IntKind.bits] | (refine And.intro ?_ ?_; focus (first | (intros; omega) | (intros; simp_all; done))) | refine And.intro (?_ : CallAt _ _ _ _ _ _ _ _) ?_ | refine And.intro (?_ : CallAt _ _ _ _ _ _ _ _ ∧ _) ?_ | refine And.intro (?_ : AW _ _ _ _) ?_ | fail))
  refine AW_nil 5 900 38 2 (by rfl) ?_
  simp (disch := omega) only [go_sem, seval, reduceCtorEq, ↓reduceIte, beq_dec, Int.toNat_natCast, IntKind.signed, IntKind.bits]
  refine AW_loopK [0, 16, 17] [5, 6, 7, 8, 9, 10, 18, 19, 20, 21, 22, 23, 24, 25, 26, 27, 28, 29, 30, 31, 32, 33, 34, 35, 36, 37, 38, 39, 40, 41, 42, 43, 44, 45, 46, 47] (fun i : Nat => i ≤ l.length) (fun i => [(5, .own 900), (18, .I i)]) (fun i => [(900, .arr 38 2 (pcs (prO l i (i + 1))))]) (fun i => l.length - i) 0 (by omega) ?_ ?_
  · have e0 : pcs (prO l 0 (0 + 1)) = [] := rfl
    simp (disch := omega) only [go_sem, seval, reduceCtorEq, ↓reduceIte, beq_dec, Int.toNat_natCast, IntKind.signed, IntKind.bits, Int.natCast_zero, e0]
  · intro i hi
    rcases Nat.lt_or_ge i l.length with hil | hil
    · have hge := getD_map yc l i [] hil
      have hkk : ((i : Int) < (l.length : Int)) = True := eq_true (by omega)
      (repeat' (first | refine NextAt.mk (fun hc => ?_) (fun pre n v post hc hkey => ?_) | refine Sni.mk (fun hc => ?_) ?_ | refine Both.mk ?_ ?_ | refine AW_seq ?_ | refine AW_block ?_ | ((first | refine AW_reg ?_ | refine AW_cond ?_ | refine AW_skip ?_ | refine AW_exit ?_ | refine AW_ret ?_ | refine AW_regD (by kernel_rfl) ?_ | refine AW_regX (by kernel_rfl) ?_ | refine CallAtG.t (Eq.refl true) ?_ | refine CallAtG.f (Eq.refl false) ?_); try simp (disch := omega) only [go_sem, seval, reduceCtorEq, ↓reduceIte, beq_dec, Int.toNat_natCast, IntKind.signed, IntKind.bits, hge, yc, Int.toNat_natCast, List.length_map, hkk]) | refine And.intro (fun hc => (?_ : AW _ _ _ _)) (fun hc => (?_ : AW _ _ _ _)) | simp (disch := omega) only [go_sem, seval, reduceCtorEq, ↓reduceIte, beq_dec, Int.toNat_natCast, IntKind.signed, IntKind.bits, hge, yc, Int.toNat_natCast, List.length_map, hkk] | (refine And.intro ?_ ?_; focus (first | (intros; omega) | (intros; simp_all; done))) | refine And.intro (?_ : CallAt _ _ _ _ _ _ _ _) ?_ | refine And.intro (?_ : CallAt _ _ _ _ _ _ _ _ ∧ _) ?_ | refine And.intro (?_ : AW _ _ _ _) ?_ | fail))
      refine AW_loopK [0, 6, 7, 16, 17, 18] [5, 8, 9, 10, 25, 26, 27, 28, 29, 30, 31, 32, 33, 34, 35, 36, 37, 38, 39, 40, 41, 42, 43, 44, 45, 46] (fun k : Nat => i + 1 ≤ k ∧ k ≤ l.length) (fun k => [(5, .own 900), (8, .I k)]) (fun k => [(7, .box 36 [.I (nth l i).1, .I (nth l i).2]), (900, .arr 38 2 (pcs (prO l i k)))]) (fun k => l.length - k) (i + 1) ⟨by omega, by omega⟩ ?_ ?_
      · simp (disch := omega) only [go_sem, seval, reduceCtorEq, ↓reduceIte, beq_dec, Int.toNat_natCast, IntKind.signed, IntKind.bits, Int.natCast_add, Int.natCast_one]
      · rintro k ⟨hk1, hk2⟩
        rcases Nat.lt_or_ge k l.length with hkl | hkl
        · have hkk2 : ((k : Int) < (l.length : Int)) = True := eq_true (by omega)
          have hps := prO_k l i k hk1
          have hpl := prO_len l (by omega) i k hi (by omega)
          have hmt := vY_mt (hv i hil) (hv k hkl)
          change vY (mtY (nth l i) (nth l k)) = ovB l i k at hmt
          cases ho : ovB l i k with
          | true =>
            rw [ho] at hmt
            have ga := x10y _ _ (hv i hil) (hv k hkl) hmt
            rw [ho, if_pos rfl] at hps
            have hps' : pcs (prO l i (k + 1)) = pcs (prO l i k) ++ [[.I (i : Int), .I (k : Int)]] := by rw [hps]; simp [pcs]
            have hpl' : (pcs (prO l i k)).length ≤ 156 := by simpa using hpl
            generalize pcs (prO l i k) = rows at *
            (repeat' (first | (with_reducible refine hold5 ?_; try simp (disch := omega) only [go_sem, seval, reduceCtorEq, ↓reduceIte, beq_dec, Int.toNat_natCast, IntKind.signed, IntKind.bits, List.length_map, hkk2]) | refine NextAt.mk (fun hc => ?_) (fun pre n v post hc hkey => ?_) | refine Sni.mk (fun hc => ?_) ?_ | refine Both.mk ?_ ?_ | refine AW_seq ?_ | refine AW_block ?_ | ((first | refine AW_reg ?_ | refine AW_cond ?_ | refine AW_skip ?_ | refine AW_exit ?_ | refine AW_ret ?_ | refine AW_regD (by kernel_rfl) ?_ | refine AW_regX (by kernel_rfl) ?_ | refine CallAtG.t (Eq.refl true) ?_ | refine CallAtG.f (Eq.refl false) ?_); try simp (disch := omega) only [go_sem, seval, reduceCtorEq, ↓reduceIte, beq_dec, Int.toNat_natCast, IntKind.signed, IntKind.bits, List.length_map, hkk2]) | refine And.intro (fun hc => (?_ : AW _ _ _ _)) (fun hc => (?_ : AW _ _ _ _)) | simp (disch := omega) only [go_sem, seval, reduceCtorEq, ↓reduceIte, beq_dec, Int.toNat_natCast, IntKind.signed, IntKind.bits, List.length_map, hkk2] | (refine And.intro ?_ ?_; focus (first | (intros; omega) | (intros; simp_all; done))) | refine And.intro (?_ : CallAt _ _ _ _ _ _ _ _) ?_ | refine And.intro (?_ : CallAt _ _ _ _ _ _ _ _ ∧ _) ?_ | refine And.intro (?_ : AW _ _ _ _) ?_ | fail))
            refine ⟨AW_cut (ou5 l i k rows true) (in5 l i k rows) (r5 l i k rows true _ _ hkl ga) ?_ ?_⟩
            · unfold in5
              simp (disch := omega) only [go_sem, seval, reduceCtorEq, ↓reduceIte, beq_dec, Int.toNat_natCast, IntKind.signed, IntKind.bits]
            · unfold ou5
              (repeat' (first | refine NextAt.mk (fun hc => ?_) (fun pre n v post hc hkey => ?_) | refine Sni.mk (fun hc => ?_) ?_ | refine Both.mk ?_ ?_ | refine AW_seq ?_ | refine AW_block ?_ | ((first | refine AW_reg ?_ | refine AW_cond ?_ | refine AW_skip ?_ | refine AW_exit ?_ | refine AW_ret ?_ | refine AW_regD (by kernel_rfl) ?_ | refine AW_regX (by kernel_rfl) ?_ | refine CallAtG.t (Eq.refl true) ?_ | refine CallAtG.f (Eq.refl false) ?_); try simp (disch := omega) only [go_sem, seval, reduceCtorEq, ↓reduceIte, beq_dec, Int.toNat_natCast, IntKind.signed, IntKind.bits, maxLen]) | refine And.intro (fun hc => (?_ : AW _ _ _ _)) (fun hc => (?_ : AW _ _ _ _)) | simp (disch := omega) only [go_sem, seval, reduceCtorEq, ↓reduceIte, beq_dec, Int.toNat_natCast, IntKind.signed, IntKind.bits, maxLen] | (refine And.intro ?_ ?_; focus (first | (intros; omega) | (intros; simp_all; done))) | refine And.intro (?_ : CallAt _ _ _ _ _ _ _ _) ?_ | refine And.intro (?_ : CallAt _ _ _ _ _ _ _ _ ∧ _) ?_ | refine And.intro (?_ : AW _ _ _ _) ?_ | fail))
              repeat' apply And.intro
              all_goals first | omega | skip
              refine .mk (k + 1) ⟨by omega, by omega⟩ (by omega) ?_
              rw [hps']
              simp (disch := omega) only [go_sem, seval, reduceCtorEq, ↓reduceIte, beq_dec, Int.toNat_natCast, IntKind.signed, IntKind.bits, Int.natCast_add, Int.natCast_one]
          | false =>
            rw [ho] at hmt
            have ga := x10n _ _ (hv i hil) (hv k hkl) hmt
            rw [ho, if_neg (by simp), List.append_nil] at hps
            have hps' : pcs (prO l i (k + 1)) = pcs (prO l i k) := by rw [hps]
            generalize pcs (prO l i k) = rows at *
            (repeat' (first | (with_reducible refine hold5 ?_; try simp (disch := omega) only [go_sem, seval, reduceCtorEq, ↓reduceIte, beq_dec, Int.toNat_natCast, IntKind.signed, IntKind.bits, List.length_map, hkk2]) | refine NextAt.mk (fun hc => ?_) (fun pre n v post hc hkey => ?_) | refine Sni.mk (fun hc => ?_) ?_ | refine Both.mk ?_ ?_ | refine AW_seq ?_ | refine AW_block ?_ | ((first | refine AW_reg ?_ | refine AW_cond ?_ | refine AW_skip ?_ | refine AW_exit ?_ | refine AW_ret ?_ | refine AW_regD (by kernel_rfl) ?_ | refine AW_regX (by kernel_rfl) ?_ | refine CallAtG.t (Eq.refl true) ?_ | refine CallAtG.f (Eq.refl false) ?_); try simp (disch := omega) only [go_sem, seval, reduceCtorEq, ↓reduceIte, beq_dec, Int.toNat_natCast, IntKind.signed, IntKind.bits, List.length_map, hkk2]) | refine And.intro (fun hc => (?_ : AW _ _ _ _)) (fun hc => (?_ : AW _ _ _ _)) | simp (disch := omega) only [go_sem, seval, reduceCtorEq, ↓reduceIte, beq_dec, Int.toNat_natCast, IntKind.signed, IntKind.bits, List.length_map, hkk2] | (refine And.intro ?_ ?_; focus (first | (intros; omega) | (intros; simp_all; done))) | refine And.intro (?_ : CallAt _ _ _ _ _ _ _ _) ?_ | refine And.intro (?_ : CallAt _ _ _ _ _ _ _ _ ∧ _) ?_ | refine And.intro (?_ : AW _ _ _ _) ?_ | fail))
            refine ⟨AW_cut (ou5 l i k rows false) (in5 l i k rows) (r5 l i k rows false _ _ hkl ga) ?_ ?_⟩
            · unfold in5
              simp (disch := omega) only [go_sem, seval, reduceCtorEq, ↓reduceIte, beq_dec, Int.toNat_natCast, IntKind.signed, IntKind.bits]
            · unfold ou5
              (repeat' (first | refine NextAt.mk (fun hc => ?_) (fun pre n v post hc hkey => ?_) | refine Sni.mk (fun hc => ?_) ?_ | refine Both.mk ?_ ?_ | refine AW_seq ?_ | refine AW_block ?_ | ((first | refine AW_reg ?_ | refine AW_cond ?_ | refine AW_skip ?_ | refine AW_exit ?_ | refine AW_ret ?_ | refine AW_regD (by kernel_rfl) ?_ | refine AW_regX (by kernel_rfl) ?_ | refine CallAtG.t (Eq.refl true) ?_ | refine CallAtG.f (Eq.refl false) ?_); try simp (disch := omega) only [go_sem, seval, reduceCtorEq, ↓reduceIte, beq_dec, Int.toNat_natCast, IntKind.signed, IntKind.bits]) | refine And.intro (fun hc => (?_ : AW _ _ _ _)) (fun hc => (?_ : AW _ _ _ _)) | simp (disch := omega) only [go_sem, seval, reduceCtorEq, ↓reduceIte, beq_dec, Int.toNat_natCast, IntKind.signed, IntKind.bits] | (refine And.intro ?_ ?_; focus (first | (intros; omega) | (intros; simp_all; done))) | refine And.intro (?_ : CallAt _ _ _ _ _ _ _ _) ?_ | refine And.intro (?_ : CallAt _ _ _ _ _ _ _ _ ∧ _) ?_ | refine And.intro (?_ : AW _ _ _ _) ?_ | fail))
              refine .mk (k + 1) ⟨by omega, by omega⟩ (by omega) ?_
              rw [hps']
              simp (disch := omega) only [go_sem, seval, reduceCtorEq, ↓reduceIte, beq_dec, Int.toNat_natCast, IntKind.signed, IntKind.bits, Int.natCast_add, Int.natCast_one]
        · obtain rfl : k = l.length := by omega
          have hkk2 : ((l.length : Int) < (l.length : Int)) = False := eq_false (by omega)
          rw [← prO_i]
          (repeat' (first | refine NextAt.mk (fun hc => ?_) (fun pre n v post hc hkey => ?_) | refine Sni.mk (fun hc => ?_) ?_ | refine Both.mk ?_ ?_ | refine AW_seq ?_ | refine AW_block ?_ | ((first | refine AW_reg ?_ | refine AW_cond ?_ | refine AW_skip ?_ | refine AW_exit ?_ | refine AW_ret ?_ | refine AW_regD (by kernel_rfl) ?_ | refine AW_regX (by kernel_rfl) ?_ | refine CallAtG.t (Eq.refl true) ?_ | refine CallAtG.f (Eq.refl false) ?_); try simp (disch := omega) only [go_sem, seval, reduceCtorEq, ↓reduceIte, beq_dec, Int.toNat_natCast, IntKind.signed, IntKind.bits, List.length_map, hkk2]) | refine And.intro (fun hc => (?_ : AW _ _ _ _)) (fun hc => (?_ : AW _ _ _ _)) | simp (disch := omega) only [go_sem, seval, reduceCtorEq, ↓reduceIte, beq_dec, Int.toNat_natCast, IntKind.signed, IntKind.bits, List.length_map, hkk2] | (refine And.intro ?_ ?_; focus (first | (intros; omega) | (intros; simp_all; done))) | refine And.intro (?_ : CallAt _ _ _ _ _ _ _ _) ?_ | refine And.intro (?_ : CallAt _ _ _ _ _ _ _ _ ∧ _) ?_ | refine And.intro (?_ : AW _ _ _ _) ?_ | fail))
          refine .mk (i + 1) (by omega) (by omega) ?_
          simp (disch := omega) only [go_sem, seval, reduceCtorEq, ↓reduceIte, beq_dec, Int.toNat_natCast, IntKind.signed, IntKind.bits, Int.natCast_add, Int.natCast_one]
    · obtain rfl : i = l.length := by omega
      have hkk : ((l.length : Int) < (l.length : Int)) = False := eq_false (by omega)
      (repeat' (first | refine NextAt.mk (fun hc => ?_) (fun pre n v post hc hkey => ?_) | refine Sni.mk (fun hc => ?_) ?_ | refine Both.mk ?_ ?_ | refine AW_seq ?_ | refine AW_block ?_ | ((first | refine AW_reg ?_ | refine AW_cond ?_ | refine AW_skip ?_ | refine AW_exit ?_ | refine AW_ret ?_ | refine AW_regD (by kernel_rfl) ?_ | refine AW_regX (by kernel_rfl) ?_ | refine CallAtG.t (Eq.refl true) ?_ | refine CallAtG.f (Eq.refl false) ?_); try simp (disch := omega) only [go_sem, seval, reduceCtorEq, ↓reduceIte, beq_dec, Int.toNat_natCast, IntKind.signed, IntKind.bits, List.length_map, hkk]) | refine And.intro (fun hc => (?_ : AW _ _ _ _)) (fun hc => (?_ : AW _ _ _ _)) | simp (disch := omega) only [go_sem, seval, reduceCtorEq, ↓reduceIte, beq_dec, Int.toNat_natCast, IntKind.signed, IntKind.bits, List.length_map, hkk] | (refine And.intro ?_ ?_; focus (first | (intros; omega) | (intros; simp_all; done))) | refine And.intro (?_ : CallAt _ _ _ _ _ _ _ _) ?_ | refine And.intro (?_ : CallAt _ _ _ _ _ _ _ _ ∧ _) ?_ | refine And.intro (?_ : AW _ _ _ _) ?_ | fail))
      rfl
def awY : List Yr := [(1, 5), (3, 9), (6, 7)]
set_option maxHeartbeats 4000000 in
theorem x4 : FnR Try.prog 4 [] [.c (.B true)] := by
  have h1 : chY awY = 0 := by decide +kernel
  have g6 := x6 awY (by decide) h1
  have g5 := x5 awY (by decide) h1
  have e1 : boxN awY = 2 := by decide +kernel
  have e2 : ovs awY = [(0, 1), (1, 2)] := by decide +kernel
  rw [e1] at g6
  rw [e2] at g5
  have g11 := x11 [(0, 1), (1, 2)] (by decide)
  simp only [awY, List.map_cons, List.map_nil] at g5 g6 g11
  refine fn_walk code4 (by simp) ?_
  (repeat' (first | refine NextAt.mk (fun hc => ?_) (fun pre n v post hc hkey => ?_) | refine Sni.mk (fun hc => ?_) ?_ | refine Both.mk ?_ ?_ | refine AW_seq ?_ | refine AW_block ?_ | ((first | refine AW_reg ?_ | refine AW_cond ?_ | refine AW_skip ?_ | refine AW_exit ?_ | refine AW_ret ?_ | refine AW_regD (by kernel_rfl) ?_ | refine AW_regX (by kernel_rfl) ?_ | refine CallAtG.t (Eq.refl true) ?_ | refine CallAtG.f (Eq.refl false) ?_); try simp (disch := omega) only [go_sem, seval, reduceCtorEq, ↓reduceIte, beq_dec, Int.toNat_natCast, IntKind.signed, IntKind.bits]) | refine And.intro (fun hc => (?_ : AW _ _ _ _)) (fun hc => (?_ : AW _ _ _ _)) | simp (disch := omega) only [go_sem, seval, reduceCtorEq, ↓reduceIte, beq_dec, Int.toNat_natCast, IntKind.signed, IntKind.bits] | (refine And.intro ?_ ?_; focus (first | (intros; omega) | (intros; simp_all; done))) | refine And.intro (?_ : CallAt _ _ _ _ _ _ _ _) ?_ | refine And.intro (?_ : CallAt _ _ _ _ _ _ _ _ ∧ _) ?_ | refine And.intro (?_ : AW _ _ _ _) ?_ | fail))
  refine CallAt.frz [9] ?_
  simp (disch := omega) only [go_sem, seval, reduceCtorEq, ↓reduceIte, beq_dec, Int.toNat_natCast, IntKind.signed, IntKind.bits]
  (repeat' (first | refine NextAt.mk (fun hc => ?_) (fun pre n v post hc hkey => ?_) | refine Sni.mk (fun hc => ?_) ?_ | refine Both.mk ?_ ?_ | refine AW_seq ?_ | refine AW_block ?_ | ((first | refine AW_reg ?_ | refine AW_cond ?_ | refine AW_skip ?_ | refine AW_exit ?_ | refine AW_ret ?_ | refine AW_regD (by kernel_rfl) ?_ | refine AW_regX (by kernel_rfl) ?_ | refine CallAtG.t (Eq.refl true) ?_ | refine CallAtG.f (Eq.refl false) ?_ | refine CallAt.mk _ (g5 ..) (by first | (intro h; cases h; done) | (intro _; repeat' (first | exact List.forall_mem_nil _ | trivial | refine List.forall_mem_cons.2 ⟨?_, ?_⟩)) | (intro _; simp [RV.flatP, CD.flatP]; done)) ?_ | refine CallAtG.mk _ (fun _ => g5 ..) ?_ | refine CallDS.mk _ (by simp [RV.data]) (fun _ => g5 ..) (by first | (intro h; cases h; done) | (intro _; repeat' (first | exact List.forall_mem_nil _ | trivial | refine List.forall_mem_cons.2 ⟨?_, ?_⟩)) | (intro _; simp [RV.flatP, CD.flatP]; done)) ?_ | refine CallAt.mk _ (g6 ..) (by first | (intro h; cases h; done) | (intro _; repeat' (first | exact List.forall_mem_nil _ | trivial | refine List.forall_mem_cons.2 ⟨?_, ?_⟩)) | (intro _; simp [RV.flatP, CD.flatP]; done)) ?_ | refine CallAtG.mk _ (fun _ => g6 ..) ?_ | refine CallDS.mk _ (by simp [RV.data]) (fun _ => g6 ..) (by first | (intro h; cases h; done) | (intro _; repeat' (first | exact List.forall_mem_nil _ | trivial | refine List.forall_mem_cons.2 ⟨?_, ?_⟩)) | (intro _; simp [RV.flatP, CD.flatP]; done)) ?_ | refine CallAt.mk _ (g11 ..) (by first | (intro h; cases h; done) | (intro _; repeat' (first | exact List.forall_mem_nil _ | trivial | refine List.forall_mem_cons.2 ⟨?_, ?_⟩)) | (intro _; simp [RV.flatP, CD.flatP]; done)) ?_ | refine CallAtG.mk _ (fun _ => g11 ..) ?_ | refine CallDS.mk _ (by simp [RV.data]) (fun _ => g11 ..) (by first | (intro h; cases h; done) | (intro _; repeat' (first | exact List.forall_mem_nil _ | trivial | refine List.forall_mem_cons.2 ⟨?_, ?_⟩)) | (intro _; simp [RV.flatP, CD.flatP]; done)) ?_); try simp (disch := omega) only [go_sem, seval, reduceCtorEq, ↓reduceIte, beq_dec, Int.toNat_natCast, IntKind.signed, IntKind.bits]) | refine And.intro (fun hc => (?_ : AW _ _ _ _)) (fun hc => (?_ : AW _ _ _ _)) | simp (disch := omega) only [go_sem, seval, reduceCtorEq, ↓reduceIte, beq_dec, Int.toNat_natCast, IntKind.signed, IntKind.bits] | (refine And.intro ?_ ?_; focus (first | (intros; omega) | (intros; simp_all; done))) | refine And.intro (?_ : CallAt _ _ _ _ _ _ _ _) ?_ | refine And.intro (?_ : CallAt _ _ _ _ _ _ _ _ ∧ _) ?_ | refine And.intro (?_ : AW _ _ _ _) ?_ | fail))
end Go.Proofs.Ytggcpnnmmcnogaa

