/-
  Lemmas for the proof: no statement of its own.
-/
import Derived.Test.YtjplkpppjlgheaaIterA
import Derived.Test.YtjplkpppjlgheaaPlain
import Derived.Test.YtjplkpppjlgheaaAlD
set_option linter.unusedVariables false
set_option linter.unusedSimpArgs false
-- P p_30.txt
open Go Go.AL Go.RowKit
namespace Go.Proofs.Ytjplkpppjlgheaa
set_option maxRecDepth 20000
/- coinage/consecutive.Runs -/
abbrev c36_1 : AC := .reg [⟨(some 6), .mv (.k (.c .nil)), none⟩,
  ⟨(some 7), .mv (.k (.I 0)), none⟩] false
abbrev c36_2 : AC := .reg [⟨(some 12), .mv (.t 0), none⟩,
  ⟨(some 13), .mv (.t 1), none⟩,
  ⟨(some 14), .mv (.t 2), none⟩,
  ⟨(some 15), .call 43 [(.t 12), (.t 13), (.t 14)], none⟩,
  ⟨(some 8), .mv (.t 15), none⟩] false
abbrev c36_3 : AC := .reg [⟨(some 16), .mv (.t 8), none⟩,
  ⟨(some 17), .bin .neq (.t 16) (.k (.I 0)), none⟩] false
abbrev c36_4 : AC := .reg [⟨(some 18), .mv (.t 8), none⟩,
  ⟨(some 6), .mv (.k (.c .nil)), none⟩,
  ⟨(some 7), .mv (.t 18), none⟩] false
abbrev c36_5 : AC := .seq c36_4 .ret
abbrev c36_6 : AC := .cond (.t 17) c36_5 .skip
abbrev c36_7 : AC := .seq c36_3 c36_6
abbrev c36_8 : AC := .seq c36_2 c36_7
abbrev c36_9 : AC := .reg [⟨(some 9), .mv (.k (.c .nil)), none⟩] false
abbrev c36_10 : AC := .reg [⟨(some 19), .mv (.t 1), none⟩,
  ⟨(some 20), .len (.t 19), none⟩,
  ⟨(some 21), .mv (.k (.I 0)), none⟩] false
abbrev c36_11 : AC := .reg [⟨(some 22), .bin .lss (.t 21) (.t 20), none⟩] false
abbrev c36_12 : AC := .cond (.t 22) .skip (.exit 0)
abbrev c36_13 : AC := .reg [⟨(some 23), .iad 1 (.t 19) (.t 21), none⟩,
  ⟨(some 24), .ld none (.t 23), none⟩,
  ⟨(some 11), .mv (.t 24), none⟩] false
abbrev c36_14 : AC := .reg [⟨(some 25), .mv (.t 9), none⟩,
  ⟨(some 26), .mv (.t 11), none⟩,
  ⟨(some 27), .mv (.t 2), none⟩,
  ⟨(some 28), .call 44 [(.t 26), (.t 27)], none⟩,
  ⟨(some 29), .bslice 3 1 [(.t 28)], none⟩,
  ⟨(some 30), .app 3 1 8 (.t 25) (.t 29), none⟩,
  ⟨(some 9), .mv (.t 30), none⟩] false
abbrev c36_15 : AC := .seq c36_13 c36_14
abbrev c36_16 : AC := .block 1 c36_15
abbrev c36_17 : AC := .reg [⟨(some 31), .bin .add (.t 21) (.k (.I 1)), none⟩,
  ⟨(some 21), .mv (.t 31), none⟩] false
abbrev c36_18 : AC := .seq c36_16 c36_17
abbrev c36_19 : AC := .seq c36_12 c36_18
abbrev c36_20 : AC := .seq c36_11 c36_19
abbrev c36_21 : AC := .loop c36_20
abbrev c36_22 : AC := .block 0 c36_21
abbrev c36_23 : AC := .seq c36_10 c36_22
abbrev c36_24 : AC := .reg [⟨(some 32), .mv (.t 9), none⟩,
  ⟨(some 6), .mv (.t 32), none⟩,
  ⟨(some 7), .mv (.k (.I 0)), none⟩] false
abbrev c36_25 : AC := .seq c36_24 .ret
abbrev c36_26 : AC := .seq c36_23 c36_25
abbrev c36_27 : AC := .seq c36_9 c36_26
abbrev c36_28 : AC := .seq c36_8 c36_27
abbrev c36_29 : AC := .seq c36_1 c36_28
abbrev c36 : AC := c36_29
theorem code36 : fnCode Try.prog 36 = some (c36, [6, 7], 33) := by kernel_rfl
/- coinage/consecutive.Gaps -/
abbrev c17_1 : AC := .reg [⟨(some 6), .mv (.k (.I 0)), none⟩,
  ⟨(some 7), .mv (.k (.I 0)), none⟩] false
abbrev c17_2 : AC := .reg [⟨(some 14), .mv (.t 0), none⟩,
  ⟨(some 15), .mv (.t 1), none⟩,
  ⟨(some 16), .mv (.t 2), none⟩,
  ⟨(some 17), .call 36 [(.t 14), (.t 15), (.t 16)], none⟩,
  ⟨(some 13), .mv (.t 17), none⟩,
  ⟨(some 18), .ext (.t 13) 0, none⟩,
  ⟨(some 19), .ext (.t 13) 1, none⟩,
  ⟨(some 8), .mv (.t 18), none⟩,
  ⟨(some 9), .mv (.t 19), none⟩] false
abbrev c17_3 : AC := .reg [⟨(some 10), .mv (.k (.I 0)), none⟩] false
abbrev c17_4 : AC := .reg [⟨(some 20), .mv (.t 8), none⟩,
  ⟨(some 21), .len (.t 20), none⟩,
  ⟨(some 22), .mv (.k (.I 0)), none⟩] false
abbrev c17_5 : AC := .reg [⟨(some 23), .bin .lss (.t 22) (.t 21), none⟩] false
abbrev c17_6 : AC := .cond (.t 23) .skip (.exit 0)
abbrev c17_7 : AC := .reg [⟨(some 24), .iad 1 (.t 20) (.t 22), none⟩,
  ⟨(some 25), .ld none (.t 24), none⟩,
  ⟨(some 12), .mv (.t 25), none⟩] false
abbrev c17_8 : AC := .reg [⟨(some 26), .mv (.t 10), none⟩,
  ⟨(some 27), .mv (.t 12), none⟩,
  ⟨(some 28), .bin .sub (.t 27) (.k (.I 1)), none⟩,
  ⟨(some 29), .minmax true (.t 28) (.k (.I 0)), none⟩,
  ⟨(some 30), .bin .add (.t 26) (.t 29), none⟩,
  ⟨(some 10), .mv (.t 30), none⟩] false
abbrev c17_9 : AC := .seq c17_7 c17_8
abbrev c17_10 : AC := .block 1 c17_9
abbrev c17_11 : AC := .reg [⟨(some 31), .bin .add (.t 22) (.k (.I 1)), none⟩,
  ⟨(some 22), .mv (.t 31), none⟩] false
abbrev c17_12 : AC := .seq c17_10 c17_11
abbrev c17_13 : AC := .seq c17_6 c17_12
abbrev c17_14 : AC := .seq c17_5 c17_13
abbrev c17_15 : AC := .loop c17_14
abbrev c17_16 : AC := .block 0 c17_15
abbrev c17_17 : AC := .seq c17_4 c17_16
abbrev c17_18 : AC := .reg [⟨(some 32), .mv (.t 10), none⟩,
  ⟨(some 33), .mv (.t 9), none⟩,
  ⟨(some 6), .mv (.t 32), none⟩,
  ⟨(some 7), .mv (.t 33), none⟩] false
abbrev c17_19 : AC := .seq c17_18 .ret
abbrev c17_20 : AC := .seq c17_17 c17_19
abbrev c17_21 : AC := .seq c17_3 c17_20
abbrev c17_22 : AC := .seq c17_2 c17_21
abbrev c17_23 : AC := .seq c17_1 c17_22
abbrev c17 : AC := c17_23
theorem code17 : fnCode Try.prog 17 = some (c17, [6, 7], 34) := by kernel_rfl
/- coinage/consecutive.check -/
abbrev c43_1 : AC := .reg [⟨(some 6), .mv (.k (.I 0)), none⟩] false
abbrev c43_2 : AC := .reg [⟨(some 8), .mv (.t 0), none⟩,
  ⟨(some 9), .mv (.t 1), none⟩,
  ⟨(some 10), .call 31 [(.t 8), (.t 9)], none⟩,
  ⟨(some 11), .not (.t 10), none⟩,
  ⟨(some 7), .mv (.t 11), none⟩] false
abbrev c43_3 : AC := .reg [⟨(some 6), .mv (.k (.I 1)), none⟩] false
abbrev c43_4 : AC := .seq c43_3 .ret
abbrev c43_5 : AC := .reg [⟨(some 13), .mv (.t 0), none⟩,
  ⟨(some 14), .mv (.t 2), none⟩,
  ⟨(some 15), .call 47 [(.t 13), (.t 14)], none⟩,
  ⟨(some 16), .not (.t 15), none⟩,
  ⟨(some 12), .mv (.t 16), none⟩] false
abbrev c43_6 : AC := .reg [⟨(some 6), .mv (.k (.I 2)), none⟩] false
abbrev c43_7 : AC := .seq c43_6 .ret
abbrev c43_8 : AC := .cond (.t 12) c43_7 .skip
abbrev c43_9 : AC := .seq c43_5 c43_8
abbrev c43_10 : AC := .cond (.t 7) c43_4 c43_9
abbrev c43_11 : AC := .seq c43_2 c43_10
abbrev c43_12 : AC := .block 0 c43_11
abbrev c43_13 : AC := .reg [⟨(some 6), .mv (.k (.I 0)), none⟩] false
abbrev c43_14 : AC := .seq c43_13 .ret
abbrev c43_15 : AC := .seq c43_12 c43_14
abbrev c43_16 : AC := .seq c43_1 c43_15
abbrev c43 : AC := c43_16
theorem code43 : fnCode Try.prog 43 = some (c43, [6], 17) := by kernel_rfl
/- coinage/consecutive.runs -/
abbrev c44_1 : AC := .reg [⟨(some 4), .mv (.k (.I 0)), none⟩] false
abbrev c44_2 : AC := .reg [⟨(some 5), .mv (.k (.I 0)), none⟩,
  ⟨(some 6), .mv (.k (.B false)), none⟩] false
abbrev c44_3 : AC := .reg [⟨(some 10), .mv (.t 1), none⟩,
  ⟨(some 11), .len (.t 10), none⟩,
  ⟨(some 12), .mv (.k (.I 0)), none⟩] false
abbrev c44_4 : AC := .reg [⟨(some 13), .bin .lss (.t 12) (.t 11), none⟩] false
abbrev c44_5 : AC := .cond (.t 13) .skip (.exit 0)
abbrev c44_6 : AC := .reg [⟨(some 14), .iad 1 (.t 10) (.t 12), none⟩,
  ⟨(some 15), .ld none (.t 14), none⟩,
  ⟨(some 8), .mv (.t 15), none⟩] false
abbrev c44_7 : AC := .reg [⟨(some 16), .mv (.t 0), none⟩,
  ⟨(some 17), .mv (.t 8), none⟩,
  ⟨(some 18), .call 48 [(.t 16), (.t 17)], none⟩,
  ⟨(some 9), .mv (.t 18), none⟩] false
abbrev c44_8 : AC := .reg [⟨(some 19), .mv (.t 9), none⟩,
  ⟨(some 20), .mv (.t 19), none⟩,
  ⟨(some 21), .mv (.t 6), (some (20, true))⟩,
  ⟨(some 22), .not (.t 21), (some (20, true))⟩,
  ⟨(some 23), .pick (.t 20) (.t 22) (.k (.B false)), none⟩] false
abbrev c44_9 : AC := .reg [⟨(some 24), .mv (.t 5), none⟩,
  ⟨(some 25), .bin .add (.t 24) (.k (.I 1)), none⟩,
  ⟨(some 5), .mv (.t 25), none⟩] false
abbrev c44_10 : AC := .cond (.t 23) c44_9 .skip
abbrev c44_11 : AC := .seq c44_8 c44_10
abbrev c44_12 : AC := .reg [⟨(some 26), .mv (.t 9), none⟩,
  ⟨(some 6), .mv (.t 26), none⟩] false
abbrev c44_13 : AC := .seq c44_11 c44_12
abbrev c44_14 : AC := .seq c44_7 c44_13
abbrev c44_15 : AC := .seq c44_6 c44_14
abbrev c44_16 : AC := .block 1 c44_15
abbrev c44_17 : AC := .reg [⟨(some 27), .bin .add (.t 12) (.k (.I 1)), none⟩,
  ⟨(some 12), .mv (.t 27), none⟩] false
abbrev c44_18 : AC := .seq c44_16 c44_17
abbrev c44_19 : AC := .seq c44_5 c44_18
abbrev c44_20 : AC := .seq c44_4 c44_19
abbrev c44_21 : AC := .loop c44_20
abbrev c44_22 : AC := .block 0 c44_21
abbrev c44_23 : AC := .seq c44_3 c44_22
abbrev c44_24 : AC := .reg [⟨(some 28), .mv (.t 5), none⟩,
  ⟨(some 4), .mv (.t 28), none⟩] false
abbrev c44_25 : AC := .seq c44_24 .ret
abbrev c44_26 : AC := .seq c44_23 c44_25
abbrev c44_27 : AC := .seq c44_2 c44_26
abbrev c44_28 : AC := .seq c44_1 c44_27
abbrev c44 : AC := c44_28
theorem code44 : fnCode Try.prog 44 = some (c44, [4], 29) := by kernel_rfl
/- coinage/consecutive.isOrder -/
abbrev c47_1 : AC := .reg [⟨(some 4), .mv (.k (.B false)), none⟩] false
abbrev c47_2 : AC := .reg [⟨(some 8), .mv (.t 1), none⟩,
  ⟨(some 9), .call 51 [(.t 8)], none⟩,
  ⟨(some 10), .call 50 [(.t 9)], none⟩,
  ⟨(some 5), .mv (.t 10), none⟩] false
abbrev c47_3 : AC := .reg [⟨(some 11), .mv (.t 5), none⟩,
  ⟨(some 12), .len (.t 11), none⟩,
  ⟨(some 13), .mv (.k (.I 0)), none⟩] false
abbrev c47_4 : AC := .reg [⟨(some 14), .bin .lss (.t 13) (.t 12), none⟩] false
abbrev c47_5 : AC := .cond (.t 14) .skip (.exit 0)
abbrev c47_6 : AC := .reg [⟨(some 15), .mv (.t 13), none⟩,
  ⟨(some 16), .iad 1 (.t 11) (.t 13), none⟩,
  ⟨(some 17), .ld none (.t 16), none⟩,
  ⟨(some 6), .mv (.t 15), none⟩,
  ⟨(some 7), .mv (.t 17), none⟩] false
abbrev c47_7 : AC := .reg [⟨(some 18), .mv (.t 7), none⟩,
  ⟨(some 19), .mv (.t 6), none⟩,
  ⟨(some 20), .bin .neq (.t 18) (.t 19), none⟩] false
abbrev c47_8 : AC := .reg [⟨(some 4), .mv (.k (.B false)), none⟩] false
abbrev c47_9 : AC := .seq c47_8 .ret
abbrev c47_10 : AC := .cond (.t 20) c47_9 .skip
abbrev c47_11 : AC := .seq c47_7 c47_10
abbrev c47_12 : AC := .seq c47_6 c47_11
abbrev c47_13 : AC := .block 1 c47_12
abbrev c47_14 : AC := .reg [⟨(some 21), .bin .add (.t 13) (.k (.I 1)), none⟩,
  ⟨(some 13), .mv (.t 21), none⟩] false
abbrev c47_15 : AC := .seq c47_13 c47_14
abbrev c47_16 : AC := .seq c47_5 c47_15
abbrev c47_17 : AC := .seq c47_4 c47_16
abbrev c47_18 : AC := .loop c47_17
abbrev c47_19 : AC := .block 0 c47_18
abbrev c47_20 : AC := .seq c47_3 c47_19
abbrev c47_21 : AC := .reg [⟨(some 22), .mv (.t 1), none⟩,
  ⟨(some 23), .len (.t 22), none⟩,
  ⟨(some 24), .mv (.t 0), none⟩,
  ⟨(some 25), .bin .eql (.t 23) (.t 24), none⟩,
  ⟨(some 4), .mv (.t 25), none⟩] false
abbrev c47_22 : AC := .seq c47_21 .ret
abbrev c47_23 : AC := .seq c47_20 c47_22
abbrev c47_24 : AC := .seq c47_2 c47_23
abbrev c47_25 : AC := .seq c47_1 c47_24
abbrev c47 : AC := c47_25
theorem code47 : fnCode Try.prog 47 = some (c47, [4], 26) := by kernel_rfl


/-! ### orders -/
abbrev srt (o : List Int) : List Int := o.mergeSort fun x y => decide (x ≤ y)
theorem srt_perm (o : List Int) : (srt o).Perm o := List.mergeSort_perm o _
theorem srt_len (o : List Int) : (srt o).length = o.length := (srt_perm o).length_eq
theorem srt_pw {o : List Int} (h : o.Nodup) : (srt o).Pairwise (· < ·) := by
  have h1 : (srt o).Pairwise (fun x y => decide (x ≤ y) = true) := List.pairwise_mergeSort (by simp; omega) (by simp; omega) o
  have h2 : (srt o).Nodup := ((srt_perm o).nodup_iff).2 h
  refine (List.Pairwise.and h1 h2).imp fun h => ?_
  simp at h
  omega
theorem isOrd_srt (o : List Int) (n : Int) : isOrd o n = decide ((o.length : Int) = n ∧ ∀ i, i < (srt o).length → nth (srt o) i = i) := by
  unfold isOrd
  rw [Bool.eq_iff_iff, decide_eq_true_eq, decide_eq_true_eq]
  refine and_congr_right fun hn => ?_
  constructor
  · intro h
    have hp : Pre o.length o := ⟨?_, fun x hx => ?_⟩
    · obtain ⟨h1, h2⟩ := pre_iff.1 ⟨hp, rfl⟩
      have e : srt o = upto o.length := pw_ext (srt_pw h1) (upto_pw _) fun x => ((srt_perm o).mem_iff).trans (h2 x)
      intro i hi
      rw [e, upto_nth (by rw [srt_len] at hi; exact hi)]
    · rw [List.nodup_iff_pairwise_ne, List.pairwise_iff_getElem]
      intro i j hi hj hij e
      refine (h j hj).2.2 i hij ?_
      rw [nth_eq o i hi, nth_eq o j hj, e]
    · obtain ⟨i, hi, rfl⟩ := List.getElem_of_mem hx
      have := h i hi
      rw [nth_eq o i hi] at this
      omega
  · intro h
    have e : srt o = upto o.length := nth_ext (by rw [srt_len, upto_len]) fun i hi => by
      rw [h i hi, upto_nth (by rw [srt_len] at hi; exact hi)]
    have hp : o.Perm (upto o.length) := e ▸ (srt_perm o).symm
    have hnd : o.Nodup := hp.nodup_iff.2 (pw_nodup (upto_pw _))
    intro i hi
    have := mem_upto.1 (hp.mem_iff.1 (nth_mem o i hi))
    refine ⟨this.1, by omega, fun k hk e => ?_⟩
    have := nth_inj hnd hi (by omega) e
    omega
theorem w40 (n : Int) (o : List Int) (hl : o.length ≤ 1000000) : FnR Try.prog 47 [.I n, .c (Row o)] [.c (.B (isOrd o n))] := by
  have gV := fvValues o
  have gS := fSorted o hl
  have hsl := srt_len o
  have hB : isOrd o n = true ↔ ((o.length : Int) = n ∧ ∀ i, i < (srt o).length → nth (srt o) i = i) := by rw [isOrd_srt, decide_eq_true_eq]
  simp only [srt] at hsl hB
  generalize (o.mergeSort fun x y => decide (x ≤ y)) = s at gS hsl hB
  refine fn_walk code47 (by simp) ?_
  (repeat' (first | refine Sni.mk (fun hc => ?_) ?_ | refine AW_seq ?_ | refine AW_block ?_ | ((first | refine AW_reg ?_ | refine AW_cond ?_ | refine AW_skip ?_ | refine AW_exit ?_ | refine AW_ret ?_ | refine AW_regD (by kernel_rfl) ?_ | refine AW_regX (by kernel_rfl) ?_ | refine CallAt.fv _ _ _ (gV ..) (by rfl) ?_ | refine CallAtG.t (Eq.refl true) ?_ | refine CallAtG.f (Eq.refl false) ?_ | refine CallAt.mk _ (gS ..) (by first | (intro h; cases h; done) | (intro _; repeat' (first | exact List.forall_mem_nil _ | trivial | refine List.forall_mem_cons.2 ⟨?_, ?_⟩)) | (intro _; simp [RV.flatP, CD.flatP]; done)) ?_ | refine CallAtG.mk _ (fun _ => gS ..) ?_ | refine CallDS.mk _ (by simp [RV.data]) (fun _ => gS ..) (by first | (intro h; cases h; done) | (intro _; repeat' (first | exact List.forall_mem_nil _ | trivial | refine List.forall_mem_cons.2 ⟨?_, ?_⟩)) | (intro _; simp [RV.flatP, CD.flatP]; done)) ?_); try simp (disch := omega) only [go_sem, Nat.reduceLT, Nat.reduceAdd, Nat.reduceSub, Nat.reduceMul, Nat.reduceBEq, Nat.reduceEqDiff, Nat.reduceLeDiff, reduceCtorEq, ↓reduceIte, beq_dec, Int.reduceToNat, Int.reduceLT, Int.reduceLE, Int.reduceAdd, Int.reduceSub, Int.reduceMul, Int.reduceEq, Int.reduceNeg, Int.reduceNe, Int.toNat_natCast, IntKind.signed, IntKind.bits, Int.reducePow, Nat.reducePow]) | refine And.intro (fun hc => (?_ : AW _ _ _ _)) (fun hc => (?_ : AW _ _ _ _)) | simp (disch := omega) only [go_sem, Nat.reduceLT, Nat.reduceAdd, Nat.reduceSub, Nat.reduceMul, Nat.reduceBEq, Nat.reduceEqDiff, Nat.reduceLeDiff, reduceCtorEq, ↓reduceIte, beq_dec, Int.reduceToNat, Int.reduceLT, Int.reduceLE, Int.reduceAdd, Int.reduceSub, Int.reduceMul, Int.reduceEq, Int.reduceNeg, Int.reduceNe, Int.toNat_natCast, IntKind.signed, IntKind.bits, Int.reducePow, Nat.reducePow] | (refine And.intro ?_ ?_; focus (first | (intros; omega) | (intros; simp_all; done))) | refine And.intro (?_ : CallAt _ _ _ _ _ _ _ _) ?_ | fail))
  refine AW_loopK [0, 1, 11, 12] [4, 6, 7, 13, 14, 15, 16, 17, 18, 19, 20, 21] (fun i : Nat => i ≤ s.length ∧ ∀ j, j < i → nth s j = j) (fun i => [(13, .I i)]) (fun _ => []) (fun i => s.length - i) 0 ⟨by omega, by omega⟩ ?_ ?_
  · simp (disch := omega) only [go_sem, Nat.reduceLT, Nat.reduceAdd, Nat.reduceSub, Nat.reduceMul, Nat.reduceBEq, Nat.reduceEqDiff, Nat.reduceLeDiff, reduceCtorEq, ↓reduceIte, beq_dec, Int.reduceToNat, Int.reduceLT, Int.reduceLE, Int.reduceAdd, Int.reduceSub, Int.reduceMul, Int.reduceEq, Int.reduceNeg, Int.reduceNe, Int.toNat_natCast, IntKind.signed, IntKind.bits, Int.reducePow, Nat.reducePow, Int.natCast_zero]
  · rintro i ⟨hi, hb⟩
    (repeat' (first | refine Sni.mk (fun hc => ?_) ?_ | refine AW_seq ?_ | refine AW_block ?_ | ((first | refine AW_reg ?_ | refine AW_cond ?_ | refine AW_skip ?_ | refine AW_exit ?_ | refine AW_ret ?_ | refine AW_regD (by kernel_rfl) ?_ | refine AW_regX (by kernel_rfl) ?_ | refine CallAtG.t (Eq.refl true) ?_ | refine CallAtG.f (Eq.refl false) ?_); try simp (disch := omega) only [go_sem, Nat.reduceLT, Nat.reduceAdd, Nat.reduceSub, Nat.reduceMul, Nat.reduceBEq, Nat.reduceEqDiff, Nat.reduceLeDiff, reduceCtorEq, ↓reduceIte, beq_dec, Int.reduceToNat, Int.reduceLT, Int.reduceLE, Int.reduceAdd, Int.reduceSub, Int.reduceMul, Int.reduceEq, Int.reduceNeg, Int.reduceNe, Int.toNat_natCast, IntKind.signed, IntKind.bits, Int.reducePow, Nat.reducePow, getD_map (fun x : Int => [CD.I x])]) | refine And.intro (fun hc => (?_ : AW _ _ _ _)) (fun hc => (?_ : AW _ _ _ _)) | simp (disch := omega) only [go_sem, Nat.reduceLT, Nat.reduceAdd, Nat.reduceSub, Nat.reduceMul, Nat.reduceBEq, Nat.reduceEqDiff, Nat.reduceLeDiff, reduceCtorEq, ↓reduceIte, beq_dec, Int.reduceToNat, Int.reduceLT, Int.reduceLE, Int.reduceAdd, Int.reduceSub, Int.reduceMul, Int.reduceEq, Int.reduceNeg, Int.reduceNe, Int.toNat_natCast, IntKind.signed, IntKind.bits, Int.reducePow, Nat.reducePow, getD_map (fun x : Int => [CD.I x])] | (refine And.intro ?_ ?_; focus (first | (intros; omega) | (intros; simp_all; done))) | refine And.intro (?_ : CallAt _ _ _ _ _ _ _ _) ?_ | fail))
    · symm
      rw [← Bool.not_eq_true, hB]
      exact fun h => absurd (h.2 i (by omega)) (by omega)
    · refine .mk (i + 1) ⟨by omega, step_lt hb (by omega)⟩ (by omega) ?_
      simp (disch := omega) only [go_sem, Nat.reduceLT, Nat.reduceAdd, Nat.reduceSub, Nat.reduceMul, Nat.reduceBEq, Nat.reduceEqDiff, Nat.reduceLeDiff, reduceCtorEq, ↓reduceIte, beq_dec, Int.reduceToNat, Int.reduceLT, Int.reduceLE, Int.reduceAdd, Int.reduceSub, Int.reduceMul, Int.reduceEq, Int.reduceNeg, Int.reduceNe, Int.toNat_natCast, IntKind.signed, IntKind.bits, Int.reducePow, Nat.reducePow, Int.natCast_add, Int.natCast_one]
    · rw [Bool.eq_iff_iff, decide_eq_true_eq, hB]
      exact ⟨fun h => ⟨h, fun j hj => hb j (by omega)⟩, fun h => h.1⟩
/-! ### runs -/
def bef (row order : List Int) (i : Nat) : Bool := decide (0 < i ∧ nth order (i - 1) ∈ row)
theorem w34 (row order : List Int) : FnR Try.prog 44 [.c (Row row), .c (Row order)] [.c (.I (runsN row order order.length : Nat))] := by
  refine FnR_len (pre := [.c (Row row)]) (post := []) (fnCode_callB code44) fun hl => ?_
  simp only [List.length_map, maxLen] at hl
  refine fn_walk code44 (by simp) ?_
  (repeat' (first | refine Sni.mk (fun hc => ?_) ?_ | refine AW_seq ?_ | refine AW_block ?_ | ((first | refine AW_reg ?_ | refine AW_cond ?_ | refine AW_skip ?_ | refine AW_exit ?_ | refine AW_ret ?_ | refine AW_regD (by kernel_rfl) ?_ | refine AW_regX (by kernel_rfl) ?_ | refine CallAtG.t (Eq.refl true) ?_ | refine CallAtG.f (Eq.refl false) ?_); try simp (disch := omega) only [go_sem, Nat.reduceLT, Nat.reduceAdd, Nat.reduceSub, Nat.reduceMul, Nat.reduceBEq, Nat.reduceEqDiff, Nat.reduceLeDiff, reduceCtorEq, ↓reduceIte, beq_dec, Int.reduceToNat, Int.reduceLT, Int.reduceLE, Int.reduceAdd, Int.reduceSub, Int.reduceMul, Int.reduceEq, Int.reduceNeg, Int.reduceNe, Int.toNat_natCast, IntKind.signed, IntKind.bits, Int.reducePow, Nat.reducePow]) | refine And.intro (fun hc => (?_ : AW _ _ _ _)) (fun hc => (?_ : AW _ _ _ _)) | simp (disch := omega) only [go_sem, Nat.reduceLT, Nat.reduceAdd, Nat.reduceSub, Nat.reduceMul, Nat.reduceBEq, Nat.reduceEqDiff, Nat.reduceLeDiff, reduceCtorEq, ↓reduceIte, beq_dec, Int.reduceToNat, Int.reduceLT, Int.reduceLE, Int.reduceAdd, Int.reduceSub, Int.reduceMul, Int.reduceEq, Int.reduceNeg, Int.reduceNe, Int.toNat_natCast, IntKind.signed, IntKind.bits, Int.reducePow, Nat.reducePow] | (refine And.intro ?_ ?_; focus (first | (intros; omega) | (intros; simp_all; done))) | refine And.intro (?_ : CallAt _ _ _ _ _ _ _ _) ?_ | fail))
  refine AW_loopK [0, 10, 11] [5, 6, 8, 9, 12, 13, 14, 15, 16, 17, 18, 19, 20, 21, 22, 23, 24, 25, 26, 27] (fun i : Nat => i ≤ order.length) (fun i => [(12, .I i), (5, .I (runsN row order i : Nat)), (6, .B (bef row order i))]) (fun _ => []) (fun i => order.length - i) 0 (by omega) ?_ ?_
  · simp (disch := omega) only [go_sem, Nat.reduceLT, Nat.reduceAdd, Nat.reduceSub, Nat.reduceMul, Nat.reduceBEq, Nat.reduceEqDiff, Nat.reduceLeDiff, reduceCtorEq, ↓reduceIte, beq_dec, Int.reduceToNat, Int.reduceLT, Int.reduceLE, Int.reduceAdd, Int.reduceSub, Int.reduceMul, Int.reduceEq, Int.reduceNeg, Int.reduceNe, Int.toNat_natCast, IntKind.signed, IntKind.bits, Int.reducePow, Nat.reducePow, Int.natCast_zero, runsN]
    simp [bef]
  · rintro i hi
    have hrl := runsN_le row order i
    have hb1 : bef row order (i + 1) = decide (nth order i ∈ row) := by simp [bef]
    cases hbi : bef row order i with
    | true =>
      have hb := of_decide_eq_true hbi
      have e : runsN row order (i + 1) = runsN row order i := by
        simp only [runsN]
        rw [if_neg fun h => h.2.elim (fun h => by omega) (fun h => h hb.2)]
        rfl
      (repeat' (first | refine Sni.mk (fun hc => ?_) ?_ | refine AW_seq ?_ | refine AW_block ?_ | ((first | refine AW_reg ?_ | refine AW_cond ?_ | refine AW_skip ?_ | refine AW_exit ?_ | refine AW_ret ?_ | refine AW_regD (by kernel_rfl) ?_ | refine AW_regX (by kernel_rfl) ?_ | refine CallAtG.t (Eq.refl true) ?_ | refine CallAtG.f (Eq.refl false) ?_ | refine CallAt.mk _ (f116 ..) (by first | (intro h; cases h; done) | (intro _; repeat' (first | exact List.forall_mem_nil _ | trivial | refine List.forall_mem_cons.2 ⟨?_, ?_⟩)) | (intro _; simp [RV.flatP, CD.flatP, getD_map (fun x : Int => [CD.I x])]; done)) ?_ | refine CallAtG.mk _ (fun _ => f116 ..) ?_ | refine CallDS.mk _ (by simp [RV.data]) (fun _ => f116 ..) (by first | (intro h; cases h; done) | (intro _; repeat' (first | exact List.forall_mem_nil _ | trivial | refine List.forall_mem_cons.2 ⟨?_, ?_⟩)) | (intro _; simp [RV.flatP, CD.flatP, getD_map (fun x : Int => [CD.I x])]; done)) ?_); try simp (disch := omega) only [go_sem, Nat.reduceLT, Nat.reduceAdd, Nat.reduceSub, Nat.reduceMul, Nat.reduceBEq, Nat.reduceEqDiff, Nat.reduceLeDiff, reduceCtorEq, ↓reduceIte, beq_dec, Int.reduceToNat, Int.reduceLT, Int.reduceLE, Int.reduceAdd, Int.reduceSub, Int.reduceMul, Int.reduceEq, Int.reduceNeg, Int.reduceNe, Int.toNat_natCast, IntKind.signed, IntKind.bits, Int.reducePow, Nat.reducePow, getD_map (fun x : Int => [CD.I x])]) | refine And.intro (fun hc => (?_ : AW _ _ _ _)) (fun hc => (?_ : AW _ _ _ _)) | simp (disch := omega) only [go_sem, Nat.reduceLT, Nat.reduceAdd, Nat.reduceSub, Nat.reduceMul, Nat.reduceBEq, Nat.reduceEqDiff, Nat.reduceLeDiff, reduceCtorEq, ↓reduceIte, beq_dec, Int.reduceToNat, Int.reduceLT, Int.reduceLE, Int.reduceAdd, Int.reduceSub, Int.reduceMul, Int.reduceEq, Int.reduceNeg, Int.reduceNe, Int.toNat_natCast, IntKind.signed, IntKind.bits, Int.reducePow, Nat.reducePow, getD_map (fun x : Int => [CD.I x])] | (refine And.intro ?_ ?_; focus (first | (intros; omega) | (intros; simp_all; done))) | refine And.intro (?_ : CallAt _ _ _ _ _ _ _ _) ?_ | fail))
      · refine .mk (i + 1) (by omega) (by omega) ?_
        simp (disch := omega) only [go_sem, Nat.reduceLT, Nat.reduceAdd, Nat.reduceSub, Nat.reduceMul, Nat.reduceBEq, Nat.reduceEqDiff, Nat.reduceLeDiff, reduceCtorEq, ↓reduceIte, beq_dec, Int.reduceToNat, Int.reduceLT, Int.reduceLE, Int.reduceAdd, Int.reduceSub, Int.reduceMul, Int.reduceEq, Int.reduceNeg, Int.reduceNe, Int.toNat_natCast, IntKind.signed, IntKind.bits, Int.reducePow, Nat.reducePow, Int.natCast_add, Int.natCast_one, e, hb1]
      · rw [show order.length = i by omega]
    | false =>
      have hb := of_decide_eq_false hbi
      (repeat' (first | refine Sni.mk (fun hc => ?_) ?_ | refine AW_seq ?_ | refine AW_block ?_ | ((first | refine AW_reg ?_ | refine AW_cond ?_ | refine AW_skip ?_ | refine AW_exit ?_ | refine AW_ret ?_ | refine AW_regD (by kernel_rfl) ?_ | refine AW_regX (by kernel_rfl) ?_ | refine CallAtG.t (Eq.refl true) ?_ | refine CallAtG.f (Eq.refl false) ?_ | refine CallAt.mk _ (f116 ..) (by first | (intro h; cases h; done) | (intro _; repeat' (first | exact List.forall_mem_nil _ | trivial | refine List.forall_mem_cons.2 ⟨?_, ?_⟩)) | (intro _; simp [RV.flatP, CD.flatP, getD_map (fun x : Int => [CD.I x])]; done)) ?_ | refine CallAtG.mk _ (fun _ => f116 ..) ?_ | refine CallDS.mk _ (by simp [RV.data]) (fun _ => f116 ..) (by first | (intro h; cases h; done) | (intro _; repeat' (first | exact List.forall_mem_nil _ | trivial | refine List.forall_mem_cons.2 ⟨?_, ?_⟩)) | (intro _; simp [RV.flatP, CD.flatP, getD_map (fun x : Int => [CD.I x])]; done)) ?_); try simp (disch := omega) only [go_sem, Nat.reduceLT, Nat.reduceAdd, Nat.reduceSub, Nat.reduceMul, Nat.reduceBEq, Nat.reduceEqDiff, Nat.reduceLeDiff, reduceCtorEq, ↓reduceIte, beq_dec, Int.reduceToNat, Int.reduceLT, Int.reduceLE, Int.reduceAdd, Int.reduceSub, Int.reduceMul, Int.reduceEq, Int.reduceNeg, Int.reduceNe, Int.toNat_natCast, IntKind.signed, IntKind.bits, Int.reducePow, Nat.reducePow, getD_map (fun x : Int => [CD.I x])]) | refine And.intro (fun hc => (?_ : AW _ _ _ _)) (fun hc => (?_ : AW _ _ _ _)) | simp (disch := omega) only [go_sem, Nat.reduceLT, Nat.reduceAdd, Nat.reduceSub, Nat.reduceMul, Nat.reduceBEq, Nat.reduceEqDiff, Nat.reduceLeDiff, reduceCtorEq, ↓reduceIte, beq_dec, Int.reduceToNat, Int.reduceLT, Int.reduceLE, Int.reduceAdd, Int.reduceSub, Int.reduceMul, Int.reduceEq, Int.reduceNeg, Int.reduceNe, Int.toNat_natCast, IntKind.signed, IntKind.bits, Int.reducePow, Nat.reducePow, getD_map (fun x : Int => [CD.I x])] | (refine And.intro ?_ ?_; focus (first | (intros; omega) | (intros; simp_all; done))) | refine And.intro (?_ : CallAt _ _ _ _ _ _ _ _) ?_ | fail))
      · refine .mk (i + 1) (by omega) (by omega) ?_
        have e : runsN row order (i + 1) = runsN row order i + 1 := by
          simp only [runsN]
          rw [if_pos]
          refine ⟨by assumption, ?_⟩
          by_cases h0 : i = 0
          · exact .inl h0
          · exact .inr fun h => hb ⟨by omega, h⟩
        simp (disch := omega) only [go_sem, Nat.reduceLT, Nat.reduceAdd, Nat.reduceSub, Nat.reduceMul, Nat.reduceBEq, Nat.reduceEqDiff, Nat.reduceLeDiff, reduceCtorEq, ↓reduceIte, beq_dec, Int.reduceToNat, Int.reduceLT, Int.reduceLE, Int.reduceAdd, Int.reduceSub, Int.reduceMul, Int.reduceEq, Int.reduceNeg, Int.reduceNe, Int.toNat_natCast, IntKind.signed, IntKind.bits, Int.reducePow, Nat.reducePow, Int.natCast_add, Int.natCast_one, e, hb1]
      · refine .mk (i + 1) (by omega) (by omega) ?_
        have e : runsN row order (i + 1) = runsN row order i := by
          simp only [runsN]
          rw [if_neg fun h => absurd h.1 (by assumption)]
          rfl
        simp (disch := omega) only [go_sem, Nat.reduceLT, Nat.reduceAdd, Nat.reduceSub, Nat.reduceMul, Nat.reduceBEq, Nat.reduceEqDiff, Nat.reduceLeDiff, reduceCtorEq, ↓reduceIte, beq_dec, Int.reduceToNat, Int.reduceLT, Int.reduceLE, Int.reduceAdd, Int.reduceSub, Int.reduceMul, Int.reduceEq, Int.reduceNeg, Int.reduceNe, Int.toNat_natCast, IntKind.signed, IntKind.bits, Int.reducePow, Nat.reducePow, Int.natCast_add, Int.natCast_one, e, hb1]
      · rw [show order.length = i by omega]
theorem w33 (n : Int) (t : List (List Int)) (o : List Int) (hl : o.length ≤ 1000000) : FnR Try.prog 43 [.I n, .c (Tab t), .c (Row o)] [.c (.I (runErr n t o))] := by
  have g40 := w40 n o hl
  refine fn_walk code43 (by simp) ?_
  unfold runErr
  cases hv : validT n t with
  | false =>
    have g38 := f38 n t
    rw [hv] at g38
    (repeat' (first | refine Sni.mk (fun hc => ?_) ?_ | refine AW_seq ?_ | refine AW_block ?_ | ((first | refine AW_reg ?_ | refine AW_cond ?_ | refine AW_skip ?_ | refine AW_exit ?_ | refine AW_ret ?_ | refine AW_regD (by kernel_rfl) ?_ | refine AW_regX (by kernel_rfl) ?_ | refine CallAtG.t (Eq.refl true) ?_ | refine CallAtG.f (Eq.refl false) ?_ | refine CallAt.mk _ (g38 ..) (by first | (intro h; cases h; done) | (intro _; repeat' (first | exact List.forall_mem_nil _ | trivial | refine List.forall_mem_cons.2 ⟨?_, ?_⟩)) | (intro _; simp [RV.flatP, CD.flatP]; done)) ?_ | refine CallAtG.mk _ (fun _ => g38 ..) ?_ | refine CallDS.mk _ (by simp [RV.data]) (fun _ => g38 ..) (by first | (intro h; cases h; done) | (intro _; repeat' (first | exact List.forall_mem_nil _ | trivial | refine List.forall_mem_cons.2 ⟨?_, ?_⟩)) | (intro _; simp [RV.flatP, CD.flatP]; done)) ?_ | refine CallAt.mk _ (g40 ..) (by first | (intro h; cases h; done) | (intro _; repeat' (first | exact List.forall_mem_nil _ | trivial | refine List.forall_mem_cons.2 ⟨?_, ?_⟩)) | (intro _; simp [RV.flatP, CD.flatP]; done)) ?_ | refine CallAtG.mk _ (fun _ => g40 ..) ?_ | refine CallDS.mk _ (by simp [RV.data]) (fun _ => g40 ..) (by first | (intro h; cases h; done) | (intro _; repeat' (first | exact List.forall_mem_nil _ | trivial | refine List.forall_mem_cons.2 ⟨?_, ?_⟩)) | (intro _; simp [RV.flatP, CD.flatP]; done)) ?_); try simp (disch := omega) only [go_sem, Nat.reduceLT, Nat.reduceAdd, Nat.reduceSub, Nat.reduceMul, Nat.reduceBEq, Nat.reduceEqDiff, Nat.reduceLeDiff, reduceCtorEq, ↓reduceIte, beq_dec, Int.reduceToNat, Int.reduceLT, Int.reduceLE, Int.reduceAdd, Int.reduceSub, Int.reduceMul, Int.reduceEq, Int.reduceNeg, Int.reduceNe, Int.toNat_natCast, IntKind.signed, IntKind.bits, Int.reducePow, Nat.reducePow]) | refine And.intro (fun hc => (?_ : AW _ _ _ _)) (fun hc => (?_ : AW _ _ _ _)) | simp (disch := omega) only [go_sem, Nat.reduceLT, Nat.reduceAdd, Nat.reduceSub, Nat.reduceMul, Nat.reduceBEq, Nat.reduceEqDiff, Nat.reduceLeDiff, reduceCtorEq, ↓reduceIte, beq_dec, Int.reduceToNat, Int.reduceLT, Int.reduceLE, Int.reduceAdd, Int.reduceSub, Int.reduceMul, Int.reduceEq, Int.reduceNeg, Int.reduceNe, Int.toNat_natCast, IntKind.signed, IntKind.bits, Int.reducePow, Nat.reducePow] | (refine And.intro ?_ ?_; focus (first | (intros; omega) | (intros; simp_all; done))) | refine And.intro (?_ : CallAt _ _ _ _ _ _ _ _) ?_ | fail))
  | true =>
    have g38 := f38 n t
    rw [hv] at g38
    cases ho : isOrd o n with
    | false =>
      rw [ho] at g40
      (repeat' (first | refine Sni.mk (fun hc => ?_) ?_ | refine AW_seq ?_ | refine AW_block ?_ | ((first | refine AW_reg ?_ | refine AW_cond ?_ | refine AW_skip ?_ | refine AW_exit ?_ | refine AW_ret ?_ | refine AW_regD (by kernel_rfl) ?_ | refine AW_regX (by kernel_rfl) ?_ | refine CallAtG.t (Eq.refl true) ?_ | refine CallAtG.f (Eq.refl false) ?_ | refine CallAt.mk _ (g38 ..) (by first | (intro h; cases h; done) | (intro _; repeat' (first | exact List.forall_mem_nil _ | trivial | refine List.forall_mem_cons.2 ⟨?_, ?_⟩)) | (intro _; simp [RV.flatP, CD.flatP]; done)) ?_ | refine CallAtG.mk _ (fun _ => g38 ..) ?_ | refine CallDS.mk _ (by simp [RV.data]) (fun _ => g38 ..) (by first | (intro h; cases h; done) | (intro _; repeat' (first | exact List.forall_mem_nil _ | trivial | refine List.forall_mem_cons.2 ⟨?_, ?_⟩)) | (intro _; simp [RV.flatP, CD.flatP]; done)) ?_ | refine CallAt.mk _ (g40 ..) (by first | (intro h; cases h; done) | (intro _; repeat' (first | exact List.forall_mem_nil _ | trivial | refine List.forall_mem_cons.2 ⟨?_, ?_⟩)) | (intro _; simp [RV.flatP, CD.flatP]; done)) ?_ | refine CallAtG.mk _ (fun _ => g40 ..) ?_ | refine CallDS.mk _ (by simp [RV.data]) (fun _ => g40 ..) (by first | (intro h; cases h; done) | (intro _; repeat' (first | exact List.forall_mem_nil _ | trivial | refine List.forall_mem_cons.2 ⟨?_, ?_⟩)) | (intro _; simp [RV.flatP, CD.flatP]; done)) ?_); try simp (disch := omega) only [go_sem, Nat.reduceLT, Nat.reduceAdd, Nat.reduceSub, Nat.reduceMul, Nat.reduceBEq, Nat.reduceEqDiff, Nat.reduceLeDiff, reduceCtorEq, ↓reduceIte, beq_dec, Int.reduceToNat, Int.reduceLT, Int.reduceLE, Int.reduceAdd, Int.reduceSub, Int.reduceMul, Int.reduceEq, Int.reduceNeg, Int.reduceNe, Int.toNat_natCast, IntKind.signed, IntKind.bits, Int.reducePow, Nat.reducePow]) | refine And.intro (fun hc => (?_ : AW _ _ _ _)) (fun hc => (?_ : AW _ _ _ _)) | simp (disch := omega) only [go_sem, Nat.reduceLT, Nat.reduceAdd, Nat.reduceSub, Nat.reduceMul, Nat.reduceBEq, Nat.reduceEqDiff, Nat.reduceLeDiff, reduceCtorEq, ↓reduceIte, beq_dec, Int.reduceToNat, Int.reduceLT, Int.reduceLE, Int.reduceAdd, Int.reduceSub, Int.reduceMul, Int.reduceEq, Int.reduceNeg, Int.reduceNe, Int.toNat_natCast, IntKind.signed, IntKind.bits, Int.reducePow, Nat.reducePow] | (refine And.intro ?_ ?_; focus (first | (intros; omega) | (intros; simp_all; done))) | refine And.intro (?_ : CallAt _ _ _ _ _ _ _ _) ?_ | fail))
    | true =>
      rw [ho] at g40
      (repeat' (first | refine Sni.mk (fun hc => ?_) ?_ | refine AW_seq ?_ | refine AW_block ?_ | ((first | refine AW_reg ?_ | refine AW_cond ?_ | refine AW_skip ?_ | refine AW_exit ?_ | refine AW_ret ?_ | refine AW_regD (by kernel_rfl) ?_ | refine AW_regX (by kernel_rfl) ?_ | refine CallAtG.t (Eq.refl true) ?_ | refine CallAtG.f (Eq.refl false) ?_ | refine CallAt.mk _ (g38 ..) (by first | (intro h; cases h; done) | (intro _; repeat' (first | exact List.forall_mem_nil _ | trivial | refine List.forall_mem_cons.2 ⟨?_, ?_⟩)) | (intro _; simp [RV.flatP, CD.flatP]; done)) ?_ | refine CallAtG.mk _ (fun _ => g38 ..) ?_ | refine CallDS.mk _ (by simp [RV.data]) (fun _ => g38 ..) (by first | (intro h; cases h; done) | (intro _; repeat' (first | exact List.forall_mem_nil _ | trivial | refine List.forall_mem_cons.2 ⟨?_, ?_⟩)) | (intro _; simp [RV.flatP, CD.flatP]; done)) ?_ | refine CallAt.mk _ (g40 ..) (by first | (intro h; cases h; done) | (intro _; repeat' (first | exact List.forall_mem_nil _ | trivial | refine List.forall_mem_cons.2 ⟨?_, ?_⟩)) | (intro _; simp [RV.flatP, CD.flatP]; done)) ?_ | refine CallAtG.mk _ (fun _ => g40 ..) ?_ | refine CallDS.mk _ (by simp [RV.data]) (fun _ => g40 ..) (by first | (intro h; cases h; done) | (intro _; repeat' (first | exact List.forall_mem_nil _ | trivial | refine List.forall_mem_cons.2 ⟨?_, ?_⟩)) | (intro _; simp [RV.flatP, CD.flatP]; done)) ?_); try simp (disch := omega) only [go_sem, Nat.reduceLT, Nat.reduceAdd, Nat.reduceSub, Nat.reduceMul, Nat.reduceBEq, Nat.reduceEqDiff, Nat.reduceLeDiff, reduceCtorEq, ↓reduceIte, beq_dec, Int.reduceToNat, Int.reduceLT, Int.reduceLE, Int.reduceAdd, Int.reduceSub, Int.reduceMul, Int.reduceEq, Int.reduceNeg, Int.reduceNe, Int.toNat_natCast, IntKind.signed, IntKind.bits, Int.reducePow, Nat.reducePow]) | refine And.intro (fun hc => (?_ : AW _ _ _ _)) (fun hc => (?_ : AW _ _ _ _)) | simp (disch := omega) only [go_sem, Nat.reduceLT, Nat.reduceAdd, Nat.reduceSub, Nat.reduceMul, Nat.reduceBEq, Nat.reduceEqDiff, Nat.reduceLeDiff, reduceCtorEq, ↓reduceIte, beq_dec, Int.reduceToNat, Int.reduceLT, Int.reduceLE, Int.reduceAdd, Int.reduceSub, Int.reduceMul, Int.reduceEq, Int.reduceNeg, Int.reduceNe, Int.toNat_natCast, IntKind.signed, IntKind.bits, Int.reducePow, Nat.reducePow] | (refine And.intro ?_ ?_; focus (first | (intros; omega) | (intros; simp_all; done))) | refine And.intro (?_ : CallAt _ _ _ _ _ _ _ _) ?_ | fail))
theorem w19 (n : Int) (t : List (List Int)) (o : List Int) (hl : o.length ≤ 1000000) : FnR Try.prog 36 [.I n, .c (Tab t), .c (Row o)] [ORow (runsL n t o), .c (.I (runErr n t o))] := by
  have g33 := w33 n t o hl
  refine fn_walk code36 (by simp) ?_
  unfold runsL
  by_cases hr : runErr n t o = 0
  case neg =>
    simp only [if_neg hr]
    generalize runErr n t o = e at g33 hr
    (repeat' (first | refine Sni.mk (fun hc => ?_) ?_ | refine AW_seq ?_ | refine AW_block ?_ | ((first | refine AW_reg ?_ | refine AW_cond ?_ | refine AW_skip ?_ | refine AW_exit ?_ | refine AW_ret ?_ | refine AW_regD (by kernel_rfl) ?_ | refine AW_regX (by kernel_rfl) ?_ | refine CallAtG.t (Eq.refl true) ?_ | refine CallAtG.f (Eq.refl false) ?_ | refine CallAt.mk _ (g33 ..) (by first | (intro h; cases h; done) | (intro _; repeat' (first | exact List.forall_mem_nil _ | trivial | refine List.forall_mem_cons.2 ⟨?_, ?_⟩)) | (intro _; simp [RV.flatP, CD.flatP]; done)) ?_ | refine CallAtG.mk _ (fun _ => g33 ..) ?_ | refine CallDS.mk _ (by simp [RV.data]) (fun _ => g33 ..) (by first | (intro h; cases h; done) | (intro _; repeat' (first | exact List.forall_mem_nil _ | trivial | refine List.forall_mem_cons.2 ⟨?_, ?_⟩)) | (intro _; simp [RV.flatP, CD.flatP]; done)) ?_); try simp (disch := omega) only [go_sem, Nat.reduceLT, Nat.reduceAdd, Nat.reduceSub, Nat.reduceMul, Nat.reduceBEq, Nat.reduceEqDiff, Nat.reduceLeDiff, reduceCtorEq, ↓reduceIte, beq_dec, Int.reduceToNat, Int.reduceLT, Int.reduceLE, Int.reduceAdd, Int.reduceSub, Int.reduceMul, Int.reduceEq, Int.reduceNeg, Int.reduceNe, Int.toNat_natCast, IntKind.signed, IntKind.bits, Int.reducePow, Nat.reducePow]) | refine And.intro (fun hc => (?_ : AW _ _ _ _)) (fun hc => (?_ : AW _ _ _ _)) | simp (disch := omega) only [go_sem, Nat.reduceLT, Nat.reduceAdd, Nat.reduceSub, Nat.reduceMul, Nat.reduceBEq, Nat.reduceEqDiff, Nat.reduceLeDiff, reduceCtorEq, ↓reduceIte, beq_dec, Int.reduceToNat, Int.reduceLT, Int.reduceLE, Int.reduceAdd, Int.reduceSub, Int.reduceMul, Int.reduceEq, Int.reduceNeg, Int.reduceNe, Int.toNat_natCast, IntKind.signed, IntKind.bits, Int.reducePow, Nat.reducePow] | (refine And.intro ?_ ?_; focus (first | (intros; omega) | (intros; simp_all; done))) | refine And.intro (?_ : CallAt _ _ _ _ _ _ _ _) ?_ | fail))
    exact absurd (by assumption) hr
  case pos =>
    rw [hr] at g33
    simp only [hr, if_true]
    have ht : t.length ≤ 16 := by
      unfold runErr at hr
      split at hr
      · omega
      · rename_i hv
        exact (validT_of (by simpa using hv)).2.2.1
    (repeat' (first | refine Sni.mk (fun hc => ?_) ?_ | refine AW_seq ?_ | refine AW_block ?_ | ((first | refine AW_reg ?_ | refine AW_cond ?_ | refine AW_skip ?_ | refine AW_exit ?_ | refine AW_ret ?_ | refine AW_regD (by kernel_rfl) ?_ | refine AW_regX (by kernel_rfl) ?_ | refine CallAtG.t (Eq.refl true) ?_ | refine CallAtG.f (Eq.refl false) ?_ | refine CallAt.mk _ (g33 ..) (by first | (intro h; cases h; done) | (intro _; repeat' (first | exact List.forall_mem_nil _ | trivial | refine List.forall_mem_cons.2 ⟨?_, ?_⟩)) | (intro _; simp [RV.flatP, CD.flatP]; done)) ?_ | refine CallAtG.mk _ (fun _ => g33 ..) ?_ | refine CallDS.mk _ (by simp [RV.data]) (fun _ => g33 ..) (by first | (intro h; cases h; done) | (intro _; repeat' (first | exact List.forall_mem_nil _ | trivial | refine List.forall_mem_cons.2 ⟨?_, ?_⟩)) | (intro _; simp [RV.flatP, CD.flatP]; done)) ?_); try simp (disch := omega) only [go_sem, Nat.reduceLT, Nat.reduceAdd, Nat.reduceSub, Nat.reduceMul, Nat.reduceBEq, Nat.reduceEqDiff, Nat.reduceLeDiff, reduceCtorEq, ↓reduceIte, beq_dec, Int.reduceToNat, Int.reduceLT, Int.reduceLE, Int.reduceAdd, Int.reduceSub, Int.reduceMul, Int.reduceEq, Int.reduceNeg, Int.reduceNe, Int.toNat_natCast, IntKind.signed, IntKind.bits, Int.reducePow, Nat.reducePow]) | refine And.intro (fun hc => (?_ : AW _ _ _ _)) (fun hc => (?_ : AW _ _ _ _)) | simp (disch := omega) only [go_sem, Nat.reduceLT, Nat.reduceAdd, Nat.reduceSub, Nat.reduceMul, Nat.reduceBEq, Nat.reduceEqDiff, Nat.reduceLeDiff, reduceCtorEq, ↓reduceIte, beq_dec, Int.reduceToNat, Int.reduceLT, Int.reduceLE, Int.reduceAdd, Int.reduceSub, Int.reduceMul, Int.reduceEq, Int.reduceNeg, Int.reduceNe, Int.toNat_natCast, IntKind.signed, IntKind.bits, Int.reducePow, Nat.reducePow] | (refine And.intro ?_ ?_; focus (first | (intros; omega) | (intros; simp_all; done))) | refine And.intro (?_ : CallAt _ _ _ _ _ _ _ _) ?_ | fail))
    refine AW_nil 9 900 3 1 (by rfl) ?_
    refine AW_loopK [2, 19, 20] [9, 11, 21, 22, 23, 24, 25, 26, 27, 28, 29, 30, 31] (fun i : Nat => i ≤ t.length) (fun i => [(21, .I i), (9, .own 900)]) (fun i => [(900, .arr 3 1 (((t.take i).map fun r => ((runsN r o o.length : Nat) : Int)).map fun x => [CD.I x]))]) (fun i => t.length - i) 0 (by omega) ?_ ?_
    · simp (disch := omega) only [go_sem, Nat.reduceLT, Nat.reduceAdd, Nat.reduceSub, Nat.reduceMul, Nat.reduceBEq, Nat.reduceEqDiff, Nat.reduceLeDiff, reduceCtorEq, ↓reduceIte, beq_dec, Int.reduceToNat, Int.reduceLT, Int.reduceLE, Int.reduceAdd, Int.reduceSub, Int.reduceMul, Int.reduceEq, Int.reduceNeg, Int.reduceNe, Int.toNat_natCast, IntKind.signed, IntKind.bits, Int.reducePow, Nat.reducePow, Int.natCast_zero, List.take_zero, List.map_nil]
    · rintro i hi
      (repeat' (first | refine Sni.mk (fun hc => ?_) ?_ | refine AW_seq ?_ | refine AW_block ?_ | ((first | refine AW_reg ?_ | refine AW_cond ?_ | refine AW_skip ?_ | refine AW_exit ?_ | refine AW_ret ?_ | refine AW_regD (by kernel_rfl) ?_ | refine AW_regX (by kernel_rfl) ?_ | refine CallAtG.t (Eq.refl true) ?_ | refine CallAtG.f (Eq.refl false) ?_ | refine CallAt.mk _ (w34 ..) (by first | (intro h; cases h; done) | (intro _; repeat' (first | exact List.forall_mem_nil _ | trivial | refine List.forall_mem_cons.2 ⟨?_, ?_⟩)) | (intro _; simp [RV.flatP, CD.flatP, maxLen, getD_map (fun r : List Int => [Row r]), List.length_take]; done)) ?_ | refine CallAtG.mk _ (fun _ => w34 ..) ?_ | refine CallDS.mk _ (by simp [RV.data]) (fun _ => w34 ..) (by first | (intro h; cases h; done) | (intro _; repeat' (first | exact List.forall_mem_nil _ | trivial | refine List.forall_mem_cons.2 ⟨?_, ?_⟩)) | (intro _; simp [RV.flatP, CD.flatP, maxLen, getD_map (fun r : List Int => [Row r]), List.length_take]; done)) ?_); try simp (disch := omega) only [go_sem, Nat.reduceLT, Nat.reduceAdd, Nat.reduceSub, Nat.reduceMul, Nat.reduceBEq, Nat.reduceEqDiff, Nat.reduceLeDiff, reduceCtorEq, ↓reduceIte, beq_dec, Int.reduceToNat, Int.reduceLT, Int.reduceLE, Int.reduceAdd, Int.reduceSub, Int.reduceMul, Int.reduceEq, Int.reduceNeg, Int.reduceNe, Int.toNat_natCast, IntKind.signed, IntKind.bits, Int.reducePow, Nat.reducePow, maxLen, getD_map (fun r : List Int => [Row r]), List.length_take]) | refine And.intro (fun hc => (?_ : AW _ _ _ _)) (fun hc => (?_ : AW _ _ _ _)) | simp (disch := omega) only [go_sem, Nat.reduceLT, Nat.reduceAdd, Nat.reduceSub, Nat.reduceMul, Nat.reduceBEq, Nat.reduceEqDiff, Nat.reduceLeDiff, reduceCtorEq, ↓reduceIte, beq_dec, Int.reduceToNat, Int.reduceLT, Int.reduceLE, Int.reduceAdd, Int.reduceSub, Int.reduceMul, Int.reduceEq, Int.reduceNeg, Int.reduceNe, Int.toNat_natCast, IntKind.signed, IntKind.bits, Int.reducePow, Nat.reducePow, maxLen, getD_map (fun r : List Int => [Row r]), List.length_take] | (refine And.intro ?_ ?_; focus (first | (intros; omega) | (intros; simp_all; done))) | refine And.intro (?_ : CallAt _ _ _ _ _ _ _ _) ?_ | fail))
      · refine .mk (i + 1) (by omega) (by omega) ?_
        have e : t.take (i + 1) = t.take i ++ [nth t i] := by rw [List.take_succ_eq_append_getElem (by omega), nth_eq t i (by omega)]
        simp (disch := omega) only [go_sem, Nat.reduceLT, Nat.reduceAdd, Nat.reduceSub, Nat.reduceMul, Nat.reduceBEq, Nat.reduceEqDiff, Nat.reduceLeDiff, reduceCtorEq, ↓reduceIte, beq_dec, Int.reduceToNat, Int.reduceLT, Int.reduceLE, Int.reduceAdd, Int.reduceSub, Int.reduceMul, Int.reduceEq, Int.reduceNeg, Int.reduceNe, Int.toNat_natCast, IntKind.signed, IntKind.bits, Int.reducePow, Nat.reducePow, Int.natCast_add, Int.natCast_one, e, List.map_append]
      · rw [show i = t.length by omega, List.take_length]
theorem w20 (n : Int) (t : List (List Int)) (o : List Int) (hl : o.length ≤ 1000000) : FnR Try.prog 17 [.I n, .c (Tab t), .c (Row o)] [.c (.I (gapsV n t o)), .c (.I (runErr n t o))] := by
  have g19 := w19 n t o hl
  refine fn_walk code17 (by simp) ?_
  obtain ⟨q1, q2⟩ := runsL_len n t o
  have hg := gapN_le (l := runsL n t o) (fun x hx => by have := q2 x hx; omega)
  unfold gapsV
  (repeat' (first | refine Sni.mk (fun hc => ?_) ?_ | refine AW_seq ?_ | refine AW_block ?_ | ((first | refine AW_reg ?_ | refine AW_cond ?_ | refine AW_skip ?_ | refine AW_exit ?_ | refine AW_ret ?_ | refine AW_regD (by kernel_rfl) ?_ | refine AW_regX (by kernel_rfl) ?_ | refine CallAtG.t (Eq.refl true) ?_ | refine CallAtG.f (Eq.refl false) ?_ | refine CallAt.mk _ (g19 ..) (by first | (intro h; cases h; done) | (intro _; repeat' (first | exact List.forall_mem_nil _ | trivial | refine List.forall_mem_cons.2 ⟨?_, ?_⟩)) | (intro _; simp [RV.flatP, CD.flatP]; done)) ?_ | refine CallAtG.mk _ (fun _ => g19 ..) ?_ | refine CallDS.mk _ (by simp [RV.data]) (fun _ => g19 ..) (by first | (intro h; cases h; done) | (intro _; repeat' (first | exact List.forall_mem_nil _ | trivial | refine List.forall_mem_cons.2 ⟨?_, ?_⟩)) | (intro _; simp [RV.flatP, CD.flatP]; done)) ?_); try simp (disch := omega) only [go_sem, Nat.reduceLT, Nat.reduceAdd, Nat.reduceSub, Nat.reduceMul, Nat.reduceBEq, Nat.reduceEqDiff, Nat.reduceLeDiff, reduceCtorEq, ↓reduceIte, beq_dec, Int.reduceToNat, Int.reduceLT, Int.reduceLE, Int.reduceAdd, Int.reduceSub, Int.reduceMul, Int.reduceEq, Int.reduceNeg, Int.reduceNe, Int.toNat_natCast, IntKind.signed, IntKind.bits, Int.reducePow, Nat.reducePow]) | refine And.intro (fun hc => (?_ : AW _ _ _ _)) (fun hc => (?_ : AW _ _ _ _)) | simp (disch := omega) only [go_sem, Nat.reduceLT, Nat.reduceAdd, Nat.reduceSub, Nat.reduceMul, Nat.reduceBEq, Nat.reduceEqDiff, Nat.reduceLeDiff, reduceCtorEq, ↓reduceIte, beq_dec, Int.reduceToNat, Int.reduceLT, Int.reduceLE, Int.reduceAdd, Int.reduceSub, Int.reduceMul, Int.reduceEq, Int.reduceNeg, Int.reduceNe, Int.toNat_natCast, IntKind.signed, IntKind.bits, Int.reducePow, Nat.reducePow] | (refine And.intro ?_ ?_; focus (first | (intros; omega) | (intros; simp_all; done))) | refine And.intro (?_ : CallAt _ _ _ _ _ _ _ _) ?_ | fail))
  refine AW_loopK [9, 20, 21] [10, 12, 22, 23, 24, 25, 26, 27, 28, 29, 30, 31] (fun i : Nat => i ≤ (runsL n t o).length) (fun i => [(22, .I i), (10, .I (gapN (runsL n t o) i))]) (fun _ => []) (fun i => (runsL n t o).length - i) 0 (by omega) ?_ ?_
  · simp (disch := omega) only [go_sem, Nat.reduceLT, Nat.reduceAdd, Nat.reduceSub, Nat.reduceMul, Nat.reduceBEq, Nat.reduceEqDiff, Nat.reduceLeDiff, reduceCtorEq, ↓reduceIte, beq_dec, Int.reduceToNat, Int.reduceLT, Int.reduceLE, Int.reduceAdd, Int.reduceSub, Int.reduceMul, Int.reduceEq, Int.reduceNeg, Int.reduceNe, Int.toNat_natCast, IntKind.signed, IntKind.bits, Int.reducePow, Nat.reducePow, Int.natCast_zero, gapN]
  · rintro i hi
    have hgi := hg i hi
    have hq : i < (runsL n t o).length → 0 ≤ nth (runsL n t o) i ∧ nth (runsL n t o) i ≤ 7 := fun h => q2 _ (nth_mem _ i h)
    (repeat' (first | refine Sni.mk (fun hc => ?_) ?_ | refine AW_seq ?_ | refine AW_block ?_ | ((first | refine AW_reg ?_ | refine AW_cond ?_ | refine AW_skip ?_ | refine AW_exit ?_ | refine AW_ret ?_ | refine AW_regD (by kernel_rfl) ?_ | refine AW_regX (by kernel_rfl) ?_ | refine CallAtG.t (Eq.refl true) ?_ | refine CallAtG.f (Eq.refl false) ?_); try simp (disch := omega) only [go_sem, Nat.reduceLT, Nat.reduceAdd, Nat.reduceSub, Nat.reduceMul, Nat.reduceBEq, Nat.reduceEqDiff, Nat.reduceLeDiff, reduceCtorEq, ↓reduceIte, beq_dec, Int.reduceToNat, Int.reduceLT, Int.reduceLE, Int.reduceAdd, Int.reduceSub, Int.reduceMul, Int.reduceEq, Int.reduceNeg, Int.reduceNe, Int.toNat_natCast, IntKind.signed, IntKind.bits, Int.reducePow, Nat.reducePow, getD_map (fun x : Int => [CD.I x])]) | refine And.intro (fun hc => (?_ : AW _ _ _ _)) (fun hc => (?_ : AW _ _ _ _)) | simp (disch := omega) only [go_sem, Nat.reduceLT, Nat.reduceAdd, Nat.reduceSub, Nat.reduceMul, Nat.reduceBEq, Nat.reduceEqDiff, Nat.reduceLeDiff, reduceCtorEq, ↓reduceIte, beq_dec, Int.reduceToNat, Int.reduceLT, Int.reduceLE, Int.reduceAdd, Int.reduceSub, Int.reduceMul, Int.reduceEq, Int.reduceNeg, Int.reduceNe, Int.toNat_natCast, IntKind.signed, IntKind.bits, Int.reducePow, Nat.reducePow, getD_map (fun x : Int => [CD.I x])] | (refine And.intro ?_ ?_; focus (first | (intros; omega) | (intros; simp_all; done))) | refine And.intro (?_ : CallAt _ _ _ _ _ _ _ _) ?_ | fail))
    · refine .mk (i + 1) (by omega) (by omega) ?_
      simp (disch := omega) only [go_sem, Nat.reduceLT, Nat.reduceAdd, Nat.reduceSub, Nat.reduceMul, Nat.reduceBEq, Nat.reduceEqDiff, Nat.reduceLeDiff, reduceCtorEq, ↓reduceIte, beq_dec, Int.reduceToNat, Int.reduceLT, Int.reduceLE, Int.reduceAdd, Int.reduceSub, Int.reduceMul, Int.reduceEq, Int.reduceNeg, Int.reduceNe, Int.toNat_natCast, IntKind.signed, IntKind.bits, Int.reducePow, Nat.reducePow, Int.natCast_add, Int.natCast_one, gapN]
    · rw [show i = (runsL n t o).length by omega]
end Go.Proofs.Ytjplkpppjlgheaa

-- P p_30.txt
open Go Go.AL Go.RowKit
namespace Go.Proofs.Ytjplkpppjlgheaa
set_option maxRecDepth 20000
/- coinage/coinagelaw30.SeriationLeast -/
abbrev c3_1 : AC := .reg [⟨(some 4), .mv (.k (.B false)), none⟩] false
abbrev c3_2 : AC := .reg [⟨(some 11), .call 11 [], none⟩,
  ⟨(some 12), .not (.t 11), none⟩,
  ⟨(some 13), .mv (.t 12), none⟩,
  ⟨(some 14), .mv (.t 1), (some (13, false))⟩,
  ⟨(some 15), .call 12 [(.t 14)], (some (13, false))⟩,
  ⟨(some 16), .not (.t 15), (some (13, false))⟩,
  ⟨(some 17), .pick (.t 13) (.k (.B true)) (.t 16), none⟩] false
abbrev c3_3 : AC := .reg [⟨(some 18), .call 11 [], none⟩,
  ⟨(some 4), .mv (.t 18), none⟩] false
abbrev c3_4 : AC := .seq c3_3 .ret
abbrev c3_5 : AC := .cond (.t 17) c3_4 .skip
abbrev c3_6 : AC := .seq c3_2 c3_5
abbrev c3_7 : AC := .reg [⟨(some 20), .mv (.t 0), none⟩,
  ⟨(some 21), .mv (.t 1), none⟩,
  ⟨(some 22), .call 13 [(.t 20), (.t 21)], none⟩,
  ⟨(some 19), .mv (.t 22), none⟩,
  ⟨(some 23), .ext (.t 19) 0, none⟩,
  ⟨(some 24), .ext (.t 19) 1, none⟩,
  ⟨(some 25), .ext (.t 19) 2, none⟩,
  ⟨(some 5), .mv (.t 23), none⟩,
  ⟨(some 6), .mv (.t 24), none⟩,
  ⟨(some 7), .mv (.t 25), none⟩] false
abbrev c3_8 : AC := .reg [⟨(some 27), .mv (.t 0), none⟩,
  ⟨(some 28), .mv (.t 1), none⟩,
  ⟨(some 29), .call 14 [(.t 27), (.t 28)], none⟩,
  ⟨(some 26), .mv (.t 29), none⟩,
  ⟨(some 30), .ext (.t 26) 0, none⟩,
  ⟨(some 31), .ext (.t 26) 1, none⟩,
  ⟨(some 32), .ext (.t 26) 2, none⟩,
  ⟨(some 8), .mv (.t 30), none⟩,
  ⟨(some 9), .mv (.t 31), none⟩,
  ⟨(some 10), .mv (.t 32), none⟩] false
abbrev c3_9 : AC := .reg [⟨(some 33), .mv (.t 5), none⟩,
  ⟨(some 34), .mv (.t 8), none⟩,
  ⟨(some 35), .call 15 [(.t 33), (.t 34)], none⟩,
  ⟨(some 36), .mv (.t 35), none⟩,
  ⟨(some 37), .mv (.t 6), (some (36, true))⟩,
  ⟨(some 38), .mv (.t 9), (some (36, true))⟩,
  ⟨(some 39), .bin .eql (.t 37) (.t 38), (some (36, true))⟩,
  ⟨(some 40), .pick (.t 36) (.t 39) (.k (.B false)), none⟩,
  ⟨(some 41), .mv (.t 40), none⟩,
  ⟨(some 42), .mv (.t 7), (some (41, true))⟩,
  ⟨(some 43), .mv (.t 10), (some (41, true))⟩,
  ⟨(some 44), .bin .eql (.t 42) (.t 43), (some (41, true))⟩,
  ⟨(some 45), .pick (.t 41) (.t 44) (.k (.B false)), none⟩,
  ⟨(some 4), .mv (.t 45), none⟩] false
abbrev c3_10 : AC := .seq c3_9 .ret
abbrev c3_11 : AC := .seq c3_8 c3_10
abbrev c3_12 : AC := .seq c3_7 c3_11
abbrev c3_13 : AC := .seq c3_6 c3_12
abbrev c3_14 : AC := .seq c3_1 c3_13
abbrev c3 : AC := c3_14
theorem code3 : fnCode Try.prog 3 = some (c3, [4], 46) := by kernel_rfl
/- coinage/coinagelaw30.SeriationCounts -/
abbrev c4_1 : AC := .reg [⟨(some 6), .mv (.k (.B false)), none⟩] false
abbrev c4_2 : AC := .reg [⟨(some 19), .call 11 [], none⟩,
  ⟨(some 20), .not (.t 19), none⟩,
  ⟨(some 21), .mv (.t 20), none⟩,
  ⟨(some 22), .mv (.t 1), (some (21, false))⟩,
  ⟨(some 23), .call 12 [(.t 22)], (some (21, false))⟩,
  ⟨(some 24), .not (.t 23), (some (21, false))⟩,
  ⟨(some 25), .pick (.t 21) (.k (.B true)) (.t 24), none⟩,
  ⟨(some 26), .mv (.t 25), none⟩,
  ⟨(some 27), .mv (.t 2), (some (26, false))⟩,
  ⟨(some 28), .len (.t 27), (some (26, false))⟩,
  ⟨(some 29), .bin .gtr (.t 28) (.k (.I 20)), (some (26, false))⟩,
  ⟨(some 30), .pick (.t 26) (.k (.B true)) (.t 29), none⟩] false
abbrev c4_3 : AC := .reg [⟨(some 31), .call 11 [], none⟩,
  ⟨(some 6), .mv (.t 31), none⟩] false
abbrev c4_4 : AC := .seq c4_3 .ret
abbrev c4_5 : AC := .cond (.t 30) c4_4 .skip
abbrev c4_6 : AC := .seq c4_2 c4_5
abbrev c4_7 : AC := .reg [⟨(some 33), .mv (.t 0), none⟩,
  ⟨(some 34), .mv (.t 1), none⟩,
  ⟨(some 35), .mv (.t 2), none⟩,
  ⟨(some 36), .call 16 [(.t 33), (.t 34), (.t 35)], none⟩,
  ⟨(some 32), .mv (.t 36), none⟩,
  ⟨(some 37), .ext (.t 32) 0, none⟩,
  ⟨(some 38), .ext (.t 32) 1, none⟩,
  ⟨(some 7), .mv (.t 37), none⟩,
  ⟨(some 8), .mv (.t 38), none⟩] false
abbrev c4_8 : AC := .reg [⟨(some 40), .mv (.t 0), none⟩,
  ⟨(some 41), .mv (.t 1), none⟩,
  ⟨(some 42), .mv (.t 2), none⟩,
  ⟨(some 43), .call 17 [(.t 40), (.t 41), (.t 42)], none⟩,
  ⟨(some 39), .mv (.t 43), none⟩,
  ⟨(some 44), .ext (.t 39) 0, none⟩,
  ⟨(some 45), .ext (.t 39) 1, none⟩,
  ⟨(some 9), .mv (.t 44), none⟩,
  ⟨(some 10), .mv (.t 45), none⟩] false
abbrev c4_9 : AC := .reg [⟨(some 47), .mv (.t 0), none⟩,
  ⟨(some 48), .mv (.t 1), none⟩,
  ⟨(some 49), .mv (.t 2), none⟩,
  ⟨(some 50), .call 18 [(.t 47), (.t 48), (.t 49)], none⟩,
  ⟨(some 46), .mv (.t 50), none⟩,
  ⟨(some 51), .ext (.t 46) 0, none⟩,
  ⟨(some 52), .ext (.t 46) 1, none⟩,
  ⟨(some 11), .mv (.t 51), none⟩,
  ⟨(some 12), .mv (.t 52), none⟩] false
abbrev c4_10 : AC := .reg [⟨(some 54), .mv (.t 0), none⟩,
  ⟨(some 55), .mv (.t 1), none⟩,
  ⟨(some 56), .mv (.t 2), none⟩,
  ⟨(some 57), .call 19 [(.t 56)], none⟩,
  ⟨(some 58), .call 16 [(.t 54), (.t 55), (.t 57)], none⟩,
  ⟨(some 53), .mv (.t 58), none⟩,
  ⟨(some 59), .ext (.t 53) 0, none⟩,
  ⟨(some 60), .ext (.t 53) 1, none⟩,
  ⟨(some 13), .mv (.t 59), none⟩,
  ⟨(some 14), .mv (.t 60), none⟩] false
abbrev c4_11 : AC := .reg [⟨(some 61), .mv (.t 8), none⟩,
  ⟨(some 62), .mv (.t 10), none⟩,
  ⟨(some 63), .bin .neq (.t 61) (.t 62), none⟩,
  ⟨(some 64), .mv (.t 63), none⟩,
  ⟨(some 65), .mv (.t 12), (some (64, false))⟩,
  ⟨(some 66), .mv (.t 10), (some (64, false))⟩,
  ⟨(some 67), .bin .neq (.t 65) (.t 66), (some (64, false))⟩,
  ⟨(some 68), .pick (.t 64) (.k (.B true)) (.t 67), none⟩,
  ⟨(some 69), .mv (.t 68), none⟩,
  ⟨(some 70), .mv (.t 14), (some (69, false))⟩,
  ⟨(some 71), .mv (.t 10), (some (69, false))⟩,
  ⟨(some 72), .bin .neq (.t 70) (.t 71), (some (69, false))⟩,
  ⟨(some 73), .pick (.t 69) (.k (.B true)) (.t 72), none⟩,
  ⟨(some 74), .mv (.t 73), none⟩,
  ⟨(some 75), .mv (.t 7), (some (74, false))⟩,
  ⟨(some 76), .mv (.t 9), (some (74, false))⟩,
  ⟨(some 77), .bin .neq (.t 75) (.t 76), (some (74, false))⟩,
  ⟨(some 78), .pick (.t 74) (.k (.B true)) (.t 77), none⟩] false
abbrev c4_12 : AC := .reg [⟨(some 6), .mv (.k (.B false)), none⟩] false
abbrev c4_13 : AC := .seq c4_12 .ret
abbrev c4_14 : AC := .cond (.t 78) c4_13 .skip
abbrev c4_15 : AC := .seq c4_11 c4_14
abbrev c4_16 : AC := .reg [⟨(some 79), .mv (.t 10), none⟩,
  ⟨(some 80), .bin .neq (.t 79) (.k (.I 0)), none⟩,
  ⟨(some 81), .mv (.t 80), none⟩,
  ⟨(some 82), .mv (.t 2), (some (81, false))⟩,
  ⟨(some 83), .len (.t 82), (some (81, false))⟩,
  ⟨(some 84), .bin .eql (.t 83) (.k (.I 0)), (some (81, false))⟩,
  ⟨(some 85), .pick (.t 81) (.k (.B true)) (.t 84), none⟩] false
abbrev c4_17 : AC := .reg [⟨(some 86), .mv (.t 7), none⟩,
  ⟨(some 87), .bin .eql (.t 86) (.k (.I 0)), none⟩,
  ⟨(some 88), .mv (.t 87), none⟩,
  ⟨(some 89), .mv (.t 11), (some (88, true))⟩,
  ⟨(some 90), .len (.t 89), (some (88, true))⟩,
  ⟨(some 91), .bin .eql (.t 90) (.k (.I 0)), (some (88, true))⟩,
  ⟨(some 92), .pick (.t 88) (.t 91) (.k (.B false)), none⟩,
  ⟨(some 6), .mv (.t 92), none⟩] false
abbrev c4_18 : AC := .seq c4_17 .ret
abbrev c4_19 : AC := .cond (.t 85) c4_18 .skip
abbrev c4_20 : AC := .seq c4_16 c4_19
abbrev c4_21 : AC := .reg [⟨(some 15), .mv (.k (.I 0)), none⟩,
  ⟨(some 16), .mv (.k (.I 0)), none⟩] false
abbrev c4_22 : AC := .reg [⟨(some 17), .mv (.k (.I 0)), none⟩] false
abbrev c4_23 : AC := .reg [⟨(some 93), .mv (.t 17), none⟩,
  ⟨(some 94), .mv (.t 11), none⟩,
  ⟨(some 95), .len (.t 94), none⟩,
  ⟨(some 96), .bin .lss (.t 93) (.t 95), none⟩] false
abbrev c4_24 : AC := .cond (.t 96) .skip (.exit 0)
abbrev c4_25 : AC := .seq c4_23 c4_24
abbrev c4_26 : AC := .reg [⟨(some 99), .mv (.t 15), none⟩,
  ⟨(some 100), .mv (.t 11), none⟩,
  ⟨(some 101), .mv (.t 17), none⟩,
  ⟨(some 102), .iad 1 (.t 100) (.t 101), none⟩,
  ⟨(some 103), .ld none (.t 102), none⟩,
  ⟨(some 104), .bin .add (.t 99) (.t 103), none⟩,
  ⟨(some 15), .mv (.t 104), none⟩] false
abbrev c4_27 : AC := .block 1 c4_26
abbrev c4_28 : AC := .reg [⟨(some 97), .mv (.t 17), none⟩,
  ⟨(some 98), .bin .add (.t 97) (.k (.I 1)), none⟩,
  ⟨(some 17), .mv (.t 98), none⟩] false
abbrev c4_29 : AC := .seq c4_27 c4_28
abbrev c4_30 : AC := .seq c4_25 c4_29
abbrev c4_31 : AC := .loop c4_30
abbrev c4_32 : AC := .block 0 c4_31
abbrev c4_33 : AC := .seq c4_22 c4_32
abbrev c4_34 : AC := .reg [⟨(some 18), .mv (.k (.I 0)), none⟩] false
abbrev c4_35 : AC := .reg [⟨(some 105), .mv (.t 18), none⟩,
  ⟨(some 106), .mv (.t 1), none⟩,
  ⟨(some 107), .len (.t 106), none⟩,
  ⟨(some 108), .bin .lss (.t 105) (.t 107), none⟩] false
abbrev c4_36 : AC := .cond (.t 108) .skip (.exit 2)
abbrev c4_37 : AC := .seq c4_35 c4_36
abbrev c4_38 : AC := .regD [(⟨(some 111), .mv (.t 1), none⟩, [1]),
  (⟨(some 112), .mv (.t 18), none⟩, [18]),
  (⟨(some 113), .iad 1 (.t 111) (.t 112), none⟩, [111, 112]),
  (⟨(some 114), .ld none (.t 113), none⟩, [113]),
  (⟨(some 115), .mv (.t 2), none⟩, [2]),
  (⟨(some 116), .iad 1 (.t 115) (.k (.I 0)), none⟩, [115]),
  (⟨(some 117), .ld none (.t 116), none⟩, [116]),
  (⟨(some 118), .call 20 [(.t 114), (.t 117)], none⟩, [114, 117])]
abbrev c4_39 : AC := .reg [⟨(some 119), .mv (.t 15), none⟩,
  ⟨(some 120), .bin .add (.t 119) (.k (.I 1)), none⟩,
  ⟨(some 15), .mv (.t 120), none⟩] false
abbrev c4_40 : AC := .cond (.t 118) c4_39 .skip
abbrev c4_41 : AC := .seq c4_38 c4_40
abbrev c4_42 : AC := .regD [(⟨(some 121), .mv (.t 1), none⟩, [1]),
  (⟨(some 122), .mv (.t 18), none⟩, [18]),
  (⟨(some 123), .iad 1 (.t 121) (.t 122), none⟩, [121, 122]),
  (⟨(some 124), .ld none (.t 123), none⟩, [123]),
  (⟨(some 125), .mv (.t 2), none⟩, [2]),
  (⟨(some 126), .mv (.t 2), none⟩, [2]),
  (⟨(some 127), .len (.t 126), none⟩, [126]),
  (⟨(some 128), .bin .sub (.t 127) (.k (.I 1)), none⟩, [127]),
  (⟨(some 129), .iad 1 (.t 125) (.t 128), none⟩, [125, 128]),
  (⟨(some 130), .ld none (.t 129), none⟩, [129]),
  (⟨(some 131), .call 20 [(.t 124), (.t 130)], none⟩, [124, 130])]
abbrev c4_43 : AC := .reg [⟨(some 132), .mv (.t 15), none⟩,
  ⟨(some 133), .bin .add (.t 132) (.k (.I 1)), none⟩,
  ⟨(some 15), .mv (.t 133), none⟩] false
abbrev c4_44 : AC := .cond (.t 131) c4_43 .skip
abbrev c4_45 : AC := .seq c4_42 c4_44
abbrev c4_46 : AC := .reg [⟨(some 134), .mv (.t 1), none⟩,
  ⟨(some 135), .mv (.t 18), none⟩,
  ⟨(some 136), .iad 1 (.t 134) (.t 135), none⟩,
  ⟨(some 137), .ld none (.t 136), none⟩,
  ⟨(some 138), .len (.t 137), none⟩,
  ⟨(some 139), .bin .gtr (.t 138) (.k (.I 0)), none⟩] false
abbrev c4_47 : AC := .reg [⟨(some 140), .mv (.t 16), none⟩,
  ⟨(some 141), .bin .add (.t 140) (.k (.I 1)), none⟩,
  ⟨(some 16), .mv (.t 141), none⟩] false
abbrev c4_48 : AC := .cond (.t 139) c4_47 .skip
abbrev c4_49 : AC := .seq c4_46 c4_48
abbrev c4_50 : AC := .seq c4_45 c4_49
abbrev c4_51 : AC := .seq c4_41 c4_50
abbrev c4_52 : AC := .block 3 c4_51
abbrev c4_53 : AC := .reg [⟨(some 109), .mv (.t 18), none⟩,
  ⟨(some 110), .bin .add (.t 109) (.k (.I 1)), none⟩,
  ⟨(some 18), .mv (.t 110), none⟩] false
abbrev c4_54 : AC := .seq c4_52 c4_53
abbrev c4_55 : AC := .seq c4_37 c4_54
abbrev c4_56 : AC := .loop c4_55
abbrev c4_57 : AC := .block 2 c4_56
abbrev c4_58 : AC := .seq c4_34 c4_57
abbrev c4_59 : AC := .reg [⟨(some 142), .mv (.t 13), none⟩,
  ⟨(some 143), .mv (.t 7), none⟩,
  ⟨(some 144), .bin .eql (.t 142) (.t 143), none⟩,
  ⟨(some 145), .mv (.t 144), none⟩,
  ⟨(some 146), .mv (.t 15), (some (145, true))⟩,
  ⟨(some 147), .bin .rem (.t 146) (.k (.I 2)), (some (145, true))⟩,
  ⟨(some 148), .bin .eql (.t 147) (.k (.I 0)), (some (145, true))⟩,
  ⟨(some 149), .pick (.t 145) (.t 148) (.k (.B false)), none⟩,
  ⟨(some 150), .mv (.t 149), none⟩,
  ⟨(some 151), .mv (.t 15), (some (150, true))⟩,
  ⟨(some 152), .bin .quo (.t 151) (.k (.I 2)), (some (150, true))⟩,
  ⟨(some 153), .mv (.t 16), (some (150, true))⟩,
  ⟨(some 154), .bin .sub (.t 152) (.t 153), (some (150, true))⟩,
  ⟨(some 155), .mv (.t 7), (some (150, true))⟩,
  ⟨(some 156), .bin .eql (.t 154) (.t 155), (some (150, true))⟩,
  ⟨(some 157), .pick (.t 150) (.t 156) (.k (.B false)), none⟩,
  ⟨(some 158), .mv (.t 157), none⟩,
  ⟨(some 159), .mv (.t 11), (some (158, true))⟩,
  ⟨(some 160), .len (.t 159), (some (158, true))⟩,
  ⟨(some 161), .mv (.t 2), (some (158, true))⟩,
  ⟨(some 162), .len (.t 161), (some (158, true))⟩,
  ⟨(some 163), .bin .sub (.t 162) (.k (.I 1)), (some (158, true))⟩,
  ⟨(some 164), .bin .eql (.t 160) (.t 163), (some (158, true))⟩,
  ⟨(some 165), .pick (.t 158) (.t 164) (.k (.B false)), none⟩,
  ⟨(some 6), .mv (.t 165), none⟩] false
abbrev c4_60 : AC := .seq c4_59 .ret
abbrev c4_61 : AC := .seq c4_58 c4_60
abbrev c4_62 : AC := .seq c4_33 c4_61
abbrev c4_63 : AC := .seq c4_21 c4_62
abbrev c4_64 : AC := .seq c4_20 c4_63
abbrev c4_65 : AC := .seq c4_15 c4_64
abbrev c4_66 : AC := .seq c4_10 c4_65
abbrev c4_67 : AC := .seq c4_9 c4_66
abbrev c4_68 : AC := .seq c4_8 c4_67
abbrev c4_69 : AC := .seq c4_7 c4_68
abbrev c4_70 : AC := .seq c4_6 c4_69
abbrev c4_71 : AC := .seq c4_1 c4_70
abbrev c4 : AC := c4_71
theorem code4 : fnCode Try.prog 4 = some (c4, [6], 166) := by kernel_rfl
/- coinage/coinagelaw30.SeriationRows -/
abbrev c5_1 : AC := .reg [⟨(some 6), .mv (.k (.B false)), none⟩] false
abbrev c5_2 : AC := .reg [⟨(some 14), .call 11 [], none⟩,
  ⟨(some 15), .not (.t 14), none⟩,
  ⟨(some 16), .mv (.t 15), none⟩,
  ⟨(some 17), .mv (.t 1), (some (16, false))⟩,
  ⟨(some 18), .call 12 [(.t 17)], (some (16, false))⟩,
  ⟨(some 19), .not (.t 18), (some (16, false))⟩,
  ⟨(some 20), .pick (.t 16) (.k (.B true)) (.t 19), none⟩,
  ⟨(some 21), .mv (.t 20), none⟩,
  ⟨(some 22), .mv (.t 1), (some (21, false))⟩,
  ⟨(some 23), .len (.t 22), (some (21, false))⟩,
  ⟨(some 24), .bin .gtr (.t 23) (.k (.I 15)), (some (21, false))⟩,
  ⟨(some 25), .pick (.t 21) (.k (.B true)) (.t 24), none⟩,
  ⟨(some 26), .mv (.t 25), none⟩,
  ⟨(some 27), .mv (.t 0), (some (26, false))⟩,
  ⟨(some 28), .mv (.t 1), (some (26, false))⟩,
  ⟨(some 29), .call 21 [(.t 27), (.t 28)], (some (26, false))⟩,
  ⟨(some 30), .not (.t 29), (some (26, false))⟩,
  ⟨(some 31), .pick (.t 26) (.k (.B true)) (.t 30), none⟩,
  ⟨(some 32), .mv (.t 31), none⟩,
  ⟨(some 33), .mv (.t 2), (some (32, false))⟩,
  ⟨(some 34), .mv (.t 0), (some (32, false))⟩,
  ⟨(some 35), .bin .sub (.t 34) (.k (.I 1)), (some (32, false))⟩,
  ⟨(some 36), .call 22 [(.t 33), (.k (.I 0)), (.t 35)], (some (32, false))⟩,
  ⟨(some 37), .not (.t 36), (some (32, false))⟩,
  ⟨(some 38), .pick (.t 32) (.k (.B true)) (.t 37), none⟩] false
abbrev c5_3 : AC := .reg [⟨(some 39), .call 11 [], none⟩,
  ⟨(some 6), .mv (.t 39), none⟩] false
abbrev c5_4 : AC := .seq c5_3 .ret
abbrev c5_5 : AC := .cond (.t 38) c5_4 .skip
abbrev c5_6 : AC := .seq c5_2 c5_5
abbrev c5_7 : AC := .reg [⟨(some 40), .bslice 25 1 [], none⟩,
  ⟨(some 41), .mv (.t 1), none⟩,
  ⟨(some 42), .app 25 1 24 (.t 40) (.t 41), none⟩,
  ⟨(some 43), .mv (.t 2), none⟩,
  ⟨(some 44), .bslice 25 1 [(.t 43)], none⟩,
  ⟨(some 45), .app 25 1 24 (.t 42) (.t 44), none⟩,
  ⟨(some 7), .mv (.t 45), none⟩] false
abbrev c5_8 : AC := .reg [⟨(some 47), .mv (.t 0), none⟩,
  ⟨(some 48), .mv (.t 1), none⟩,
  ⟨(some 49), .call 13 [(.t 47), (.t 48)], none⟩,
  ⟨(some 46), .mv (.t 49), none⟩,
  ⟨(some 50), .ext (.t 46) 0, none⟩,
  ⟨(some 51), .ext (.t 46) 1, none⟩,
  ⟨(some 52), .ext (.t 46) 2, none⟩,
  ⟨(some 8), .mv (.t 50), none⟩,
  ⟨(some 9), .mv (.t 51), none⟩,
  ⟨(some 10), .mv (.t 52), none⟩] false
abbrev c5_9 : AC := .reg [⟨(some 54), .mv (.t 0), none⟩,
  ⟨(some 55), .mv (.t 7), none⟩,
  ⟨(some 56), .call 13 [(.t 54), (.t 55)], none⟩,
  ⟨(some 53), .mv (.t 56), none⟩,
  ⟨(some 57), .ext (.t 53) 0, none⟩,
  ⟨(some 58), .ext (.t 53) 1, none⟩,
  ⟨(some 59), .ext (.t 53) 2, none⟩,
  ⟨(some 11), .mv (.t 57), none⟩,
  ⟨(some 12), .mv (.t 58), none⟩,
  ⟨(some 13), .mv (.t 59), none⟩] false
abbrev c5_10 : AC := .reg [⟨(some 60), .mv (.t 10), none⟩,
  ⟨(some 61), .bin .neq (.t 60) (.k (.I 0)), none⟩,
  ⟨(some 62), .mv (.t 61), none⟩,
  ⟨(some 63), .mv (.t 13), (some (62, false))⟩,
  ⟨(some 64), .bin .neq (.t 63) (.k (.I 0)), (some (62, false))⟩,
  ⟨(some 65), .pick (.t 62) (.k (.B true)) (.t 64), none⟩,
  ⟨(some 66), .mv (.t 65), none⟩,
  ⟨(some 67), .mv (.t 12), (some (66, false))⟩,
  ⟨(some 68), .mv (.t 9), (some (66, false))⟩,
  ⟨(some 69), .bin .lss (.t 67) (.t 68), (some (66, false))⟩,
  ⟨(some 70), .pick (.t 66) (.k (.B true)) (.t 69), none⟩] false
abbrev c5_11 : AC := .reg [⟨(some 6), .mv (.k (.B false)), none⟩] false
abbrev c5_12 : AC := .seq c5_11 .ret
abbrev c5_13 : AC := .cond (.t 70) c5_12 .skip
abbrev c5_14 : AC := .seq c5_10 c5_13
abbrev c5_15 : AC := .reg [⟨(some 71), .mv (.t 2), none⟩,
  ⟨(some 72), .len (.t 71), none⟩,
  ⟨(some 73), .bin .gtr (.t 72) (.k (.I 1)), none⟩,
  ⟨(some 74), .mv (.t 73), none⟩,
  ⟨(some 75), .mv (.t 2), (some (74, true))⟩,
  ⟨(some 76), .len (.t 75), (some (74, true))⟩,
  ⟨(some 77), .mv (.t 0), (some (74, true))⟩,
  ⟨(some 78), .bin .lss (.t 76) (.t 77), (some (74, true))⟩,
  ⟨(some 79), .pick (.t 74) (.t 78) (.k (.B false)), none⟩,
  ⟨(some 80), .mv (.t 79), none⟩,
  ⟨(some 81), .mv (.t 9), (some (80, false))⟩,
  ⟨(some 82), .mv (.t 12), (some (80, false))⟩,
  ⟨(some 83), .bin .eql (.t 81) (.t 82), (some (80, false))⟩,
  ⟨(some 84), .pick (.t 80) (.k (.B true)) (.t 83), none⟩,
  ⟨(some 6), .mv (.t 84), none⟩] false
abbrev c5_16 : AC := .seq c5_15 .ret
abbrev c5_17 : AC := .seq c5_14 c5_16
abbrev c5_18 : AC := .seq c5_9 c5_17
abbrev c5_19 : AC := .seq c5_8 c5_18
abbrev c5_20 : AC := .seq c5_7 c5_19
abbrev c5_21 : AC := .seq c5_6 c5_20
abbrev c5_22 : AC := .seq c5_1 c5_21
abbrev c5 : AC := c5_22
theorem code5 : fnCode Try.prog 5 = some (c5, [6], 85) := by kernel_rfl
/- coinage/coinagelaw30.SeriationLocal -/
abbrev c6_1 : AC := .reg [⟨(some 6), .mv (.k (.B false)), none⟩] false
abbrev c6_2 : AC := .reg [⟨(some 19), .call 11 [], none⟩,
  ⟨(some 20), .not (.t 19), none⟩,
  ⟨(some 21), .mv (.t 20), none⟩,
  ⟨(some 22), .mv (.t 1), (some (21, false))⟩,
  ⟨(some 23), .call 12 [(.t 22)], (some (21, false))⟩,
  ⟨(some 24), .not (.t 23), (some (21, false))⟩,
  ⟨(some 25), .pick (.t 21) (.k (.B true)) (.t 24), none⟩,
  ⟨(some 26), .mv (.t 25), none⟩,
  ⟨(some 27), .mv (.t 2), (some (26, false))⟩,
  ⟨(some 28), .len (.t 27), (some (26, false))⟩,
  ⟨(some 29), .bin .gtr (.t 28) (.k (.I 20)), (some (26, false))⟩,
  ⟨(some 30), .pick (.t 26) (.k (.B true)) (.t 29), none⟩] false
abbrev c6_3 : AC := .reg [⟨(some 31), .call 11 [], none⟩,
  ⟨(some 6), .mv (.t 31), none⟩] false
abbrev c6_4 : AC := .seq c6_3 .ret
abbrev c6_5 : AC := .cond (.t 30) c6_4 .skip
abbrev c6_6 : AC := .seq c6_2 c6_5
abbrev c6_7 : AC := .reg [⟨(some 33), .mv (.t 0), none⟩,
  ⟨(some 34), .mv (.t 1), none⟩,
  ⟨(some 35), .mv (.t 2), none⟩,
  ⟨(some 36), .call 23 [(.t 33), (.t 34), (.t 35)], none⟩,
  ⟨(some 32), .mv (.t 36), none⟩,
  ⟨(some 37), .ext (.t 32) 0, none⟩,
  ⟨(some 38), .ext (.t 32) 1, none⟩,
  ⟨(some 7), .mv (.t 37), none⟩,
  ⟨(some 8), .mv (.t 38), none⟩] false
abbrev c6_8 : AC := .reg [⟨(some 40), .mv (.t 0), none⟩,
  ⟨(some 41), .mv (.t 1), none⟩,
  ⟨(some 42), .mv (.t 2), none⟩,
  ⟨(some 43), .call 24 [(.t 40), (.t 41), (.t 42)], none⟩,
  ⟨(some 39), .mv (.t 43), none⟩,
  ⟨(some 44), .ext (.t 39) 0, none⟩,
  ⟨(some 45), .ext (.t 39) 1, none⟩,
  ⟨(some 9), .mv (.t 44), none⟩,
  ⟨(some 10), .mv (.t 45), none⟩] false
abbrev c6_9 : AC := .reg [⟨(some 47), .mv (.t 0), none⟩,
  ⟨(some 48), .mv (.t 1), none⟩,
  ⟨(some 49), .mv (.t 2), none⟩,
  ⟨(some 50), .call 18 [(.t 47), (.t 48), (.t 49)], none⟩,
  ⟨(some 46), .mv (.t 50), none⟩,
  ⟨(some 51), .ext (.t 46) 0, none⟩,
  ⟨(some 52), .ext (.t 46) 1, none⟩,
  ⟨(some 11), .mv (.t 51), none⟩,
  ⟨(some 12), .mv (.t 52), none⟩] false
abbrev c6_10 : AC := .reg [⟨(some 54), .mv (.t 0), none⟩,
  ⟨(some 55), .mv (.t 1), none⟩,
  ⟨(some 56), .mv (.t 2), none⟩,
  ⟨(some 57), .call 25 [(.t 54), (.t 55), (.t 56)], none⟩,
  ⟨(some 53), .mv (.t 57), none⟩,
  ⟨(some 58), .ext (.t 53) 0, none⟩,
  ⟨(some 59), .ext (.t 53) 1, none⟩,
  ⟨(some 13), .mv (.t 58), none⟩,
  ⟨(some 14), .mv (.t 59), none⟩] false
abbrev c6_11 : AC := .reg [⟨(some 61), .mv (.t 0), none⟩,
  ⟨(some 62), .mv (.t 1), none⟩,
  ⟨(some 63), .mv (.t 2), none⟩,
  ⟨(some 64), .call 16 [(.t 61), (.t 62), (.t 63)], none⟩,
  ⟨(some 60), .mv (.t 64), none⟩,
  ⟨(some 65), .ext (.t 60) 0, none⟩,
  ⟨(some 66), .ext (.t 60) 1, none⟩,
  ⟨(some 15), .mv (.t 65), none⟩,
  ⟨(some 16), .mv (.t 66), none⟩] false
abbrev c6_12 : AC := .reg [⟨(some 68), .mv (.t 0), none⟩,
  ⟨(some 69), .mv (.t 1), none⟩,
  ⟨(some 70), .mv (.t 2), none⟩,
  ⟨(some 71), .call 26 [(.t 68), (.t 69), (.t 70)], none⟩,
  ⟨(some 67), .mv (.t 71), none⟩,
  ⟨(some 72), .ext (.t 67) 0, none⟩,
  ⟨(some 73), .ext (.t 67) 1, none⟩,
  ⟨(some 17), .mv (.t 72), none⟩,
  ⟨(some 18), .mv (.t 73), none⟩] false
abbrev c6_13 : AC := .reg [⟨(some 74), .mv (.t 7), none⟩,
  ⟨(some 75), .mv (.t 9), none⟩,
  ⟨(some 76), .call 15 [(.t 74), (.t 75)], none⟩,
  ⟨(some 77), .mv (.t 76), none⟩,
  ⟨(some 78), .mv (.t 8), (some (77, true))⟩,
  ⟨(some 79), .mv (.t 10), (some (77, true))⟩,
  ⟨(some 80), .bin .eql (.t 78) (.t 79), (some (77, true))⟩,
  ⟨(some 81), .pick (.t 77) (.t 80) (.k (.B false)), none⟩,
  ⟨(some 82), .mv (.t 81), none⟩,
  ⟨(some 83), .mv (.t 11), (some (82, true))⟩,
  ⟨(some 84), .mv (.t 13), (some (82, true))⟩,
  ⟨(some 85), .call 15 [(.t 83), (.t 84)], (some (82, true))⟩,
  ⟨(some 86), .pick (.t 82) (.t 85) (.k (.B false)), none⟩,
  ⟨(some 87), .mv (.t 86), none⟩,
  ⟨(some 88), .mv (.t 12), (some (87, true))⟩,
  ⟨(some 89), .mv (.t 14), (some (87, true))⟩,
  ⟨(some 90), .bin .eql (.t 88) (.t 89), (some (87, true))⟩,
  ⟨(some 91), .pick (.t 87) (.t 90) (.k (.B false)), none⟩,
  ⟨(some 92), .mv (.t 91), none⟩,
  ⟨(some 93), .mv (.t 15), (some (92, true))⟩,
  ⟨(some 94), .mv (.t 17), (some (92, true))⟩,
  ⟨(some 95), .bin .eql (.t 93) (.t 94), (some (92, true))⟩,
  ⟨(some 96), .pick (.t 92) (.t 95) (.k (.B false)), none⟩,
  ⟨(some 97), .mv (.t 96), none⟩,
  ⟨(some 98), .mv (.t 16), (some (97, true))⟩,
  ⟨(some 99), .mv (.t 18), (some (97, true))⟩,
  ⟨(some 100), .bin .eql (.t 98) (.t 99), (some (97, true))⟩,
  ⟨(some 101), .pick (.t 97) (.t 100) (.k (.B false)), none⟩,
  ⟨(some 102), .mv (.t 101), none⟩,
  ⟨(some 103), .mv (.t 2), (some (102, true))⟩,
  ⟨(some 104), .call 19 [(.t 103)], (some (102, true))⟩,
  ⟨(some 105), .mv (.t 2), (some (102, true))⟩,
  ⟨(some 106), .call 27 [(.t 105)], (some (102, true))⟩,
  ⟨(some 107), .call 15 [(.t 104), (.t 106)], (some (102, true))⟩,
  ⟨(some 108), .pick (.t 102) (.t 107) (.k (.B false)), none⟩,
  ⟨(some 6), .mv (.t 108), none⟩] false
abbrev c6_14 : AC := .seq c6_13 .ret
abbrev c6_15 : AC := .seq c6_12 c6_14
abbrev c6_16 : AC := .seq c6_11 c6_15
abbrev c6_17 : AC := .seq c6_10 c6_16
abbrev c6_18 : AC := .seq c6_9 c6_17
abbrev c6_19 : AC := .seq c6_8 c6_18
abbrev c6_20 : AC := .seq c6_7 c6_19
abbrev c6_21 : AC := .seq c6_6 c6_20
abbrev c6_22 : AC := .seq c6_1 c6_21
abbrev c6 : AC := c6_22
theorem code6 : fnCode Try.prog 6 = some (c6, [6], 109) := by kernel_rfl
/- coinage/coinagelaw30.SeriationFalls -/
abbrev c7_1 : AC := .reg [⟨(some 6), .mv (.k (.B false)), none⟩] false
abbrev c7_2 : AC := .reg [⟨(some 19), .call 11 [], none⟩,
  ⟨(some 20), .not (.t 19), none⟩,
  ⟨(some 21), .mv (.t 20), none⟩,
  ⟨(some 22), .mv (.t 1), (some (21, false))⟩,
  ⟨(some 23), .call 12 [(.t 22)], (some (21, false))⟩,
  ⟨(some 24), .not (.t 23), (some (21, false))⟩,
  ⟨(some 25), .pick (.t 21) (.k (.B true)) (.t 24), none⟩,
  ⟨(some 26), .mv (.t 25), none⟩,
  ⟨(some 27), .mv (.t 2), (some (26, false))⟩,
  ⟨(some 28), .len (.t 27), (some (26, false))⟩,
  ⟨(some 29), .bin .gtr (.t 28) (.k (.I 20)), (some (26, false))⟩,
  ⟨(some 30), .pick (.t 26) (.k (.B true)) (.t 29), none⟩] false
abbrev c7_3 : AC := .reg [⟨(some 31), .call 11 [], none⟩,
  ⟨(some 6), .mv (.t 31), none⟩] false
abbrev c7_4 : AC := .seq c7_3 .ret
abbrev c7_5 : AC := .cond (.t 30) c7_4 .skip
abbrev c7_6 : AC := .seq c7_2 c7_5
abbrev c7_7 : AC := .reg [⟨(some 33), .mv (.t 0), none⟩,
  ⟨(some 34), .mv (.t 1), none⟩,
  ⟨(some 35), .mv (.t 2), none⟩,
  ⟨(some 36), .call 23 [(.t 33), (.t 34), (.t 35)], none⟩,
  ⟨(some 32), .mv (.t 36), none⟩,
  ⟨(some 37), .ext (.t 32) 0, none⟩,
  ⟨(some 38), .ext (.t 32) 1, none⟩,
  ⟨(some 7), .mv (.t 37), none⟩,
  ⟨(some 8), .mv (.t 38), none⟩] false
abbrev c7_8 : AC := .reg [⟨(some 40), .mv (.t 0), none⟩,
  ⟨(some 41), .mv (.t 1), none⟩,
  ⟨(some 42), .mv (.t 2), none⟩,
  ⟨(some 43), .call 17 [(.t 40), (.t 41), (.t 42)], none⟩,
  ⟨(some 39), .mv (.t 43), none⟩,
  ⟨(some 44), .ext (.t 39) 0, none⟩,
  ⟨(some 45), .ext (.t 39) 1, none⟩,
  ⟨(some 9), .mv (.t 44), none⟩,
  ⟨(some 10), .mv (.t 45), none⟩] false
abbrev c7_9 : AC := .reg [⟨(some 46), .mv (.t 8), none⟩,
  ⟨(some 47), .bin .neq (.t 46) (.k (.I 0)), none⟩,
  ⟨(some 48), .mv (.t 47), none⟩,
  ⟨(some 49), .mv (.t 10), (some (48, false))⟩,
  ⟨(some 50), .bin .neq (.t 49) (.k (.I 0)), (some (48, false))⟩,
  ⟨(some 51), .pick (.t 48) (.k (.B true)) (.t 50), none⟩] false
abbrev c7_10 : AC := .reg [⟨(some 52), .mv (.t 8), none⟩,
  ⟨(some 53), .mv (.t 10), none⟩,
  ⟨(some 54), .bin .eql (.t 52) (.t 53), none⟩,
  ⟨(some 55), .mv (.t 54), none⟩,
  ⟨(some 56), .mv (.t 7), (some (55, true))⟩,
  ⟨(some 57), .len (.t 56), (some (55, true))⟩,
  ⟨(some 58), .bin .eql (.t 57) (.k (.I 0)), (some (55, true))⟩,
  ⟨(some 59), .pick (.t 55) (.t 58) (.k (.B false)), none⟩,
  ⟨(some 6), .mv (.t 59), none⟩] false
abbrev c7_11 : AC := .seq c7_10 .ret
abbrev c7_12 : AC := .cond (.t 51) c7_11 .skip
abbrev c7_13 : AC := .seq c7_9 c7_12
abbrev c7_14 : AC := .reg [⟨(some 61), .mv (.t 0), none⟩,
  ⟨(some 62), .mv (.t 1), none⟩,
  ⟨(some 63), .mv (.t 7), none⟩,
  ⟨(some 64), .call 17 [(.t 61), (.t 62), (.t 63)], none⟩,
  ⟨(some 60), .mv (.t 64), none⟩,
  ⟨(some 65), .ext (.t 60) 0, none⟩,
  ⟨(some 66), .ext (.t 60) 1, none⟩,
  ⟨(some 11), .mv (.t 65), none⟩,
  ⟨(some 12), .mv (.t 66), none⟩] false
abbrev c7_15 : AC := .reg [⟨(some 67), .mv (.t 12), none⟩,
  ⟨(some 68), .bin .neq (.t 67) (.k (.I 0)), none⟩,
  ⟨(some 69), .mv (.t 68), none⟩,
  ⟨(some 70), .mv (.t 11), (some (69, false))⟩,
  ⟨(some 71), .mv (.t 9), (some (69, false))⟩,
  ⟨(some 72), .bin .gtr (.t 70) (.t 71), (some (69, false))⟩,
  ⟨(some 73), .pick (.t 69) (.k (.B true)) (.t 72), none⟩] false
abbrev c7_16 : AC := .reg [⟨(some 6), .mv (.k (.B false)), none⟩] false
abbrev c7_17 : AC := .seq c7_16 .ret
abbrev c7_18 : AC := .cond (.t 73) c7_17 .skip
abbrev c7_19 : AC := .seq c7_15 c7_18
abbrev c7_20 : AC := .reg [⟨(some 13), .mv (.k (.I 0)), none⟩] false
abbrev c7_21 : AC := .reg [⟨(some 74), .mv (.t 13), none⟩,
  ⟨(some 75), .bin .add (.t 74) (.k (.I 1)), none⟩,
  ⟨(some 76), .mv (.t 7), none⟩,
  ⟨(some 77), .len (.t 76), none⟩,
  ⟨(some 78), .bin .lss (.t 75) (.t 77), none⟩] false
abbrev c7_22 : AC := .cond (.t 78) .skip (.exit 0)
abbrev c7_23 : AC := .seq c7_21 c7_22
abbrev c7_24 : AC := .reg [⟨(some 81), .bslice 3 1 [], none⟩,
  ⟨(some 82), .mv (.t 7), none⟩,
  ⟨(some 83), .app 3 1 8 (.t 81) (.t 82), none⟩,
  ⟨(some 14), .mv (.t 83), none⟩] false
abbrev c7_25 : AC := .regX (.first ⟨(some 84), .mv (.t 14), none⟩
  (.first ⟨(some 85), .mv (.t 13), none⟩
  (.first ⟨(some 86), .mv (.t 14), none⟩
  (.first ⟨(some 87), .mv (.t 13), none⟩
  (.first ⟨(some 88), .bin .add (.t 87) (.k (.I 1)), none⟩
  (.first ⟨(some 89), .mv (.t 14), none⟩
  (.first ⟨(some 90), .mv (.t 13), none⟩
  (.first ⟨(some 91), .bin .add (.t 90) (.k (.I 1)), none⟩
  (.first ⟨(some 92), .iad 1 (.t 89) (.t 91), none⟩
  (.first ⟨(some 94), .mv (.t 14), none⟩
  (.first ⟨(some 95), .mv (.t 13), none⟩
  (.first ⟨(some 96), .iad 1 (.t 94) (.t 95), none⟩
  (.fork ⟨(some 93), .ld none (.t 92), none⟩
  (.fork ⟨(some 97), .ld none (.t 96), none⟩
  (.first ⟨(some 98), .iad 1 (.t 84) (.t 85), none⟩
  (.fork ⟨none, .st none (.t 98) (.t 93), none⟩
  (.first ⟨(some 99), .iad 1 (.t 86) (.t 88), none⟩
  (.fork ⟨none, .st none (.t 99) (.t 97), none⟩
  .done
  .nope))
  .nope))
  .nope)
  (.fork ⟨(some 97), .ld none (.t 96), none⟩
  (.fork ⟨(some 93), .ld none (.t 92), none⟩
  (.first ⟨(some 98), .iad 1 (.t 84) (.t 85), none⟩
  (.fork ⟨none, .st none (.t 98) (.t 93), none⟩
  (.first ⟨(some 99), .iad 1 (.t 86) (.t 88), none⟩
  (.fork ⟨none, .st none (.t 99) (.t 97), none⟩
  .done
  .nope))
  .nope))
  .nope)
  .nope))))))))))))))
abbrev c7_26 : AC := .reg [⟨(some 101), .mv (.t 0), none⟩,
  ⟨(some 102), .mv (.t 1), none⟩,
  ⟨(some 103), .mv (.t 14), none⟩,
  ⟨(some 104), .call 17 [(.t 101), (.t 102), (.t 103)], none⟩,
  ⟨(some 100), .mv (.t 104), none⟩,
  ⟨(some 105), .ext (.t 100) 0, none⟩,
  ⟨(some 106), .ext (.t 100) 1, none⟩,
  ⟨(some 15), .mv (.t 105), none⟩,
  ⟨(some 16), .mv (.t 106), none⟩] false
abbrev c7_27 : AC := .reg [⟨(some 107), .mv (.t 16), none⟩,
  ⟨(some 108), .bin .neq (.t 107) (.k (.I 0)), none⟩,
  ⟨(some 109), .mv (.t 108), none⟩,
  ⟨(some 110), .mv (.t 15), (some (109, false))⟩,
  ⟨(some 111), .mv (.t 11), (some (109, false))⟩,
  ⟨(some 112), .bin .lss (.t 110) (.t 111), (some (109, false))⟩,
  ⟨(some 113), .pick (.t 109) (.k (.B true)) (.t 112), none⟩] false
abbrev c7_28 : AC := .reg [⟨(some 6), .mv (.k (.B false)), none⟩] false
abbrev c7_29 : AC := .seq c7_28 .ret
abbrev c7_30 : AC := .cond (.t 113) c7_29 .skip
abbrev c7_31 : AC := .seq c7_27 c7_30
abbrev c7_32 : AC := .seq c7_26 c7_31
abbrev c7_33 : AC := .seq c7_25 c7_32
abbrev c7_34 : AC := .seq c7_24 c7_33
abbrev c7_35 : AC := .block 1 c7_34
abbrev c7_36 : AC := .reg [⟨(some 79), .mv (.t 13), none⟩,
  ⟨(some 80), .bin .add (.t 79) (.k (.I 1)), none⟩,
  ⟨(some 13), .mv (.t 80), none⟩] false
abbrev c7_37 : AC := .seq c7_35 c7_36
abbrev c7_38 : AC := .seq c7_23 c7_37
abbrev c7_39 : AC := .loop c7_38
abbrev c7_40 : AC := .block 0 c7_39
abbrev c7_41 : AC := .seq c7_20 c7_40
abbrev c7_42 : AC := .reg [⟨(some 115), .mv (.t 0), none⟩,
  ⟨(some 116), .mv (.t 1), none⟩,
  ⟨(some 117), .mv (.t 7), none⟩,
  ⟨(some 118), .call 23 [(.t 115), (.t 116), (.t 117)], none⟩,
  ⟨(some 114), .mv (.t 118), none⟩,
  ⟨(some 119), .ext (.t 114) 0, none⟩,
  ⟨(some 120), .ext (.t 114) 1, none⟩,
  ⟨(some 17), .mv (.t 119), none⟩,
  ⟨(some 18), .mv (.t 120), none⟩] false
abbrev c7_43 : AC := .reg [⟨(some 121), .mv (.t 18), none⟩,
  ⟨(some 122), .bin .eql (.t 121) (.k (.I 0)), none⟩,
  ⟨(some 123), .mv (.t 122), none⟩,
  ⟨(some 124), .mv (.t 17), (some (123, true))⟩,
  ⟨(some 125), .mv (.t 7), (some (123, true))⟩,
  ⟨(some 126), .call 15 [(.t 124), (.t 125)], (some (123, true))⟩,
  ⟨(some 127), .pick (.t 123) (.t 126) (.k (.B false)), none⟩,
  ⟨(some 6), .mv (.t 127), none⟩] false
abbrev c7_44 : AC := .seq c7_43 .ret
abbrev c7_45 : AC := .seq c7_42 c7_44
abbrev c7_46 : AC := .seq c7_41 c7_45
abbrev c7_47 : AC := .seq c7_19 c7_46
abbrev c7_48 : AC := .seq c7_14 c7_47
abbrev c7_49 : AC := .seq c7_13 c7_48
abbrev c7_50 : AC := .seq c7_8 c7_49
abbrev c7_51 : AC := .seq c7_7 c7_50
abbrev c7_52 : AC := .seq c7_6 c7_51
abbrev c7_53 : AC := .seq c7_1 c7_52
abbrev c7 : AC := c7_53
theorem code7 : fnCode Try.prog 7 = some (c7, [6], 128) := by kernel_rfl
/- coinage/coinagelaw30.SeriationBounds -/
abbrev c8_1 : AC := .reg [⟨(some 6), .mv (.k (.B false)), none⟩] false
abbrev c8_2 : AC := .reg [⟨(some 12), .call 11 [], none⟩,
  ⟨(some 13), .not (.t 12), none⟩,
  ⟨(some 14), .mv (.t 13), none⟩,
  ⟨(some 15), .mv (.t 1), (some (14, false))⟩,
  ⟨(some 16), .call 12 [(.t 15)], (some (14, false))⟩,
  ⟨(some 17), .not (.t 16), (some (14, false))⟩,
  ⟨(some 18), .pick (.t 14) (.k (.B true)) (.t 17), none⟩,
  ⟨(some 19), .mv (.t 18), none⟩,
  ⟨(some 20), .mv (.t 2), (some (19, false))⟩,
  ⟨(some 21), .len (.t 20), (some (19, false))⟩,
  ⟨(some 22), .bin .gtr (.t 21) (.k (.I 6)), (some (19, false))⟩,
  ⟨(some 23), .pick (.t 19) (.k (.B true)) (.t 22), none⟩] false
abbrev c8_3 : AC := .reg [⟨(some 24), .call 11 [], none⟩,
  ⟨(some 6), .mv (.t 24), none⟩] false
abbrev c8_4 : AC := .seq c8_3 .ret
abbrev c8_5 : AC := .cond (.t 23) c8_4 .skip
abbrev c8_6 : AC := .seq c8_2 c8_5
abbrev c8_7 : AC := .reg [⟨(some 7), .mv (.k (.I 0)), none⟩] false
abbrev c8_8 : AC := .reg [⟨(some 25), .mv (.t 7), none⟩,
  ⟨(some 26), .mv (.t 2), none⟩,
  ⟨(some 27), .len (.t 26), none⟩,
  ⟨(some 28), .bin .lss (.t 25) (.t 27), none⟩] false
abbrev c8_9 : AC := .cond (.t 28) .skip (.exit 0)
abbrev c8_10 : AC := .seq c8_8 c8_9
abbrev c8_11 : AC := .reg [⟨(some 31), .mv (.t 2), none⟩,
  ⟨(some 32), .mv (.t 7), none⟩,
  ⟨(some 33), .iad 1 (.t 31) (.t 32), none⟩,
  ⟨(some 34), .ld none (.t 33), none⟩,
  ⟨(some 35), .len (.t 34), none⟩,
  ⟨(some 36), .bin .gtr (.t 35) (.k (.I 20)), none⟩] false
abbrev c8_12 : AC := .reg [⟨(some 6), .mv (.k (.B true)), none⟩] false
abbrev c8_13 : AC := .seq c8_12 .ret
abbrev c8_14 : AC := .cond (.t 36) c8_13 .skip
abbrev c8_15 : AC := .seq c8_11 c8_14
abbrev c8_16 : AC := .block 1 c8_15
abbrev c8_17 : AC := .reg [⟨(some 29), .mv (.t 7), none⟩,
  ⟨(some 30), .bin .add (.t 29) (.k (.I 1)), none⟩,
  ⟨(some 7), .mv (.t 30), none⟩] false
abbrev c8_18 : AC := .seq c8_16 c8_17
abbrev c8_19 : AC := .seq c8_10 c8_18
abbrev c8_20 : AC := .loop c8_19
abbrev c8_21 : AC := .block 0 c8_20
abbrev c8_22 : AC := .seq c8_7 c8_21
abbrev c8_23 : AC := .reg [⟨(some 38), .mv (.t 0), none⟩,
  ⟨(some 39), .mv (.t 1), none⟩,
  ⟨(some 40), .mv (.t 2), none⟩,
  ⟨(some 41), .call 28 [(.t 38), (.t 39), (.t 40)], none⟩,
  ⟨(some 37), .mv (.t 41), none⟩,
  ⟨(some 42), .ext (.t 37) 0, none⟩,
  ⟨(some 43), .ext (.t 37) 1, none⟩,
  ⟨(some 8), .mv (.t 42), none⟩,
  ⟨(some 9), .mv (.t 43), none⟩] false
abbrev c8_24 : AC := .reg [⟨(some 45), .mv (.t 0), none⟩,
  ⟨(some 46), .mv (.t 1), none⟩,
  ⟨(some 47), .mv (.t 2), none⟩,
  ⟨(some 48), .call 29 [(.t 45), (.t 46), (.t 47)], none⟩,
  ⟨(some 44), .mv (.t 48), none⟩,
  ⟨(some 49), .ext (.t 44) 0, none⟩,
  ⟨(some 50), .ext (.t 44) 1, none⟩,
  ⟨(some 10), .mv (.t 49), none⟩,
  ⟨(some 11), .mv (.t 50), none⟩] false
abbrev c8_25 : AC := .reg [⟨(some 51), .mv (.t 8), none⟩,
  ⟨(some 52), .mv (.t 10), none⟩,
  ⟨(some 53), .bin .eql (.t 51) (.t 52), none⟩,
  ⟨(some 54), .mv (.t 53), none⟩,
  ⟨(some 55), .mv (.t 9), (some (54, true))⟩,
  ⟨(some 56), .mv (.t 11), (some (54, true))⟩,
  ⟨(some 57), .bin .eql (.t 55) (.t 56), (some (54, true))⟩,
  ⟨(some 58), .pick (.t 54) (.t 57) (.k (.B false)), none⟩,
  ⟨(some 6), .mv (.t 58), none⟩] false
abbrev c8_26 : AC := .seq c8_25 .ret
abbrev c8_27 : AC := .seq c8_24 c8_26
abbrev c8_28 : AC := .seq c8_23 c8_27
abbrev c8_29 : AC := .seq c8_22 c8_28
abbrev c8_30 : AC := .seq c8_6 c8_29
abbrev c8_31 : AC := .seq c8_1 c8_30
abbrev c8 : AC := c8_31
theorem code8 : fnCode Try.prog 8 = some (c8, [6], 59) := by kernel_rfl
/- coinage/coinagelaw30.SeriationLower -/
abbrev c9_1 : AC := .reg [⟨(some 6), .mv (.k (.B false)), none⟩] false
abbrev c9_2 : AC := .reg [⟨(some 21), .call 11 [], none⟩,
  ⟨(some 22), .not (.t 21), none⟩,
  ⟨(some 23), .mv (.t 22), none⟩,
  ⟨(some 24), .mv (.t 1), (some (23, false))⟩,
  ⟨(some 25), .call 12 [(.t 24)], (some (23, false))⟩,
  ⟨(some 26), .not (.t 25), (some (23, false))⟩,
  ⟨(some 27), .pick (.t 23) (.k (.B true)) (.t 26), none⟩,
  ⟨(some 28), .mv (.t 27), none⟩,
  ⟨(some 29), .mv (.t 2), (some (28, false))⟩,
  ⟨(some 30), .len (.t 29), (some (28, false))⟩,
  ⟨(some 31), .bin .gtr (.t 30) (.k (.I 30)), (some (28, false))⟩,
  ⟨(some 32), .pick (.t 28) (.k (.B true)) (.t 31), none⟩] false
abbrev c9_3 : AC := .reg [⟨(some 33), .call 11 [], none⟩,
  ⟨(some 6), .mv (.t 33), none⟩] false
abbrev c9_4 : AC := .seq c9_3 .ret
abbrev c9_5 : AC := .cond (.t 32) c9_4 .skip
abbrev c9_6 : AC := .seq c9_2 c9_5
abbrev c9_7 : AC := .reg [⟨(some 35), .mv (.t 0), none⟩,
  ⟨(some 36), .mv (.t 1), none⟩,
  ⟨(some 37), .call 13 [(.t 35), (.t 36)], none⟩,
  ⟨(some 34), .mv (.t 37), none⟩,
  ⟨(some 38), .ext (.t 34) 0, none⟩,
  ⟨(some 39), .ext (.t 34) 1, none⟩,
  ⟨(some 40), .ext (.t 34) 2, none⟩,
  ⟨(some 7), .mv (.t 38), none⟩,
  ⟨(some 8), .mv (.t 39), none⟩,
  ⟨(some 9), .mv (.t 40), none⟩] false
abbrev c9_8 : AC := .reg [⟨(some 41), .mks 25 1 24 [.nil] (.k (.I 4)) (.k (.I 4)), none⟩,
  ⟨(some 10), .mv (.t 41), none⟩] false
abbrev c9_9 : AC := .reg [⟨(some 42), .mks 25 1 24 [.nil] (.k (.I 3)) (.k (.I 3)), none⟩,
  ⟨(some 11), .mv (.t 42), none⟩] false
abbrev c9_10 : AC := .reg [⟨(some 43), .mks 25 1 24 [.nil] (.k (.I 1)) (.k (.I 1)), none⟩,
  ⟨(some 12), .mv (.t 43), none⟩] false
abbrev c9_11 : AC := .reg [⟨(some 13), .mv (.k (.I 0)), none⟩] false
abbrev c9_12 : AC := .reg [⟨(some 44), .mv (.t 13), none⟩,
  ⟨(some 45), .mv (.t 1), none⟩,
  ⟨(some 46), .len (.t 45), none⟩,
  ⟨(some 47), .bin .lss (.t 44) (.t 46), none⟩] false
abbrev c9_13 : AC := .cond (.t 47) .skip (.exit 0)
abbrev c9_14 : AC := .seq c9_12 c9_13
abbrev c9_15 : AC := .reg [⟨(some 14), .mv (.k (.I 3)), none⟩] false
abbrev c9_16 : AC := .reg [⟨(some 50), .mv (.t 13), none⟩,
  ⟨(some 51), .mv (.t 2), none⟩,
  ⟨(some 52), .len (.t 51), none⟩,
  ⟨(some 53), .bin .lss (.t 50) (.t 52), none⟩] false
abbrev c9_17 : AC := .reg [⟨(some 54), .mv (.t 2), none⟩,
  ⟨(some 55), .mv (.t 13), none⟩,
  ⟨(some 56), .iad 1 (.t 54) (.t 55), none⟩,
  ⟨(some 57), .ld none (.t 56), none⟩,
  ⟨(some 58), .bin .rem (.t 57) (.k (.c (.sc (.int .u8 4)))), none⟩,
  ⟨(some 59), .conv .i64 (.t 58), none⟩,
  ⟨(some 14), .mv (.t 59), none⟩] false
abbrev c9_18 : AC := .cond (.t 53) c9_17 .skip
abbrev c9_19 : AC := .seq c9_16 c9_18
abbrev c9_20 : AC := .reg [⟨(some 60), .mv (.t 10), none⟩,
  ⟨(some 61), .mv (.t 14), none⟩,
  ⟨(some 62), .mv (.t 10), none⟩,
  ⟨(some 63), .mv (.t 14), none⟩,
  ⟨(some 64), .iad 1 (.t 62) (.t 63), none⟩,
  ⟨(some 65), .ld none (.t 64), none⟩,
  ⟨(some 66), .mv (.t 13), none⟩,
  ⟨(some 67), .bslice 3 1 [(.t 66)], none⟩,
  ⟨(some 68), .app 3 1 8 (.t 65) (.t 67), none⟩,
  ⟨(some 69), .iad 1 (.t 60) (.t 61), none⟩,
  ⟨none, .st none (.t 69) (.t 68), none⟩] false
abbrev c9_21 : AC := .reg [⟨(some 70), .mv (.t 11), none⟩,
  ⟨(some 71), .mv (.t 14), none⟩,
  ⟨(some 72), .minmax false (.t 71) (.k (.I 2)), none⟩,
  ⟨(some 73), .mv (.t 11), none⟩,
  ⟨(some 74), .mv (.t 14), none⟩,
  ⟨(some 75), .minmax false (.t 74) (.k (.I 2)), none⟩,
  ⟨(some 76), .iad 1 (.t 73) (.t 75), none⟩,
  ⟨(some 77), .ld none (.t 76), none⟩,
  ⟨(some 78), .mv (.t 13), none⟩,
  ⟨(some 79), .bslice 3 1 [(.t 78)], none⟩,
  ⟨(some 80), .app 3 1 8 (.t 77) (.t 79), none⟩,
  ⟨(some 81), .iad 1 (.t 70) (.t 72), none⟩,
  ⟨none, .st none (.t 81) (.t 80), none⟩] false
abbrev c9_22 : AC := .reg [⟨(some 82), .mv (.t 12), none⟩,
  ⟨(some 83), .mv (.t 12), none⟩,
  ⟨(some 84), .iad 1 (.t 83) (.k (.I 0)), none⟩,
  ⟨(some 85), .ld none (.t 84), none⟩,
  ⟨(some 86), .mv (.t 13), none⟩,
  ⟨(some 87), .bslice 3 1 [(.t 86)], none⟩,
  ⟨(some 88), .app 3 1 8 (.t 85) (.t 87), none⟩,
  ⟨(some 89), .iad 1 (.t 82) (.k (.I 0)), none⟩,
  ⟨none, .st none (.t 89) (.t 88), none⟩] false
abbrev c9_23 : AC := .seq c9_21 c9_22
abbrev c9_24 : AC := .seq c9_20 c9_23
abbrev c9_25 : AC := .seq c9_19 c9_24
abbrev c9_26 : AC := .seq c9_15 c9_25
abbrev c9_27 : AC := .block 1 c9_26
abbrev c9_28 : AC := .reg [⟨(some 48), .mv (.t 13), none⟩,
  ⟨(some 49), .bin .add (.t 48) (.k (.I 1)), none⟩,
  ⟨(some 13), .mv (.t 49), none⟩] false
abbrev c9_29 : AC := .seq c9_27 c9_28
abbrev c9_30 : AC := .seq c9_14 c9_29
abbrev c9_31 : AC := .loop c9_30
abbrev c9_32 : AC := .block 0 c9_31
abbrev c9_33 : AC := .seq c9_11 c9_32
abbrev c9_34 : AC := .reg [⟨(some 91), .mv (.t 0), none⟩,
  ⟨(some 92), .mv (.t 1), none⟩,
  ⟨(some 93), .mv (.t 10), none⟩,
  ⟨(some 94), .call 28 [(.t 91), (.t 92), (.t 93)], none⟩,
  ⟨(some 90), .mv (.t 94), none⟩,
  ⟨(some 95), .ext (.t 90) 0, none⟩,
  ⟨(some 96), .ext (.t 90) 1, none⟩,
  ⟨(some 15), .mv (.t 95), none⟩,
  ⟨(some 16), .mv (.t 96), none⟩] false
abbrev c9_35 : AC := .reg [⟨(some 98), .mv (.t 0), none⟩,
  ⟨(some 99), .mv (.t 1), none⟩,
  ⟨(some 100), .mv (.t 11), none⟩,
  ⟨(some 101), .call 28 [(.t 98), (.t 99), (.t 100)], none⟩,
  ⟨(some 97), .mv (.t 101), none⟩,
  ⟨(some 102), .ext (.t 97) 0, none⟩,
  ⟨(some 103), .ext (.t 97) 1, none⟩,
  ⟨(some 17), .mv (.t 102), none⟩,
  ⟨(some 18), .mv (.t 103), none⟩] false
abbrev c9_36 : AC := .reg [⟨(some 105), .mv (.t 0), none⟩,
  ⟨(some 106), .mv (.t 1), none⟩,
  ⟨(some 107), .mv (.t 12), none⟩,
  ⟨(some 108), .call 28 [(.t 105), (.t 106), (.t 107)], none⟩,
  ⟨(some 104), .mv (.t 108), none⟩,
  ⟨(some 109), .ext (.t 104) 0, none⟩,
  ⟨(some 110), .ext (.t 104) 1, none⟩,
  ⟨(some 19), .mv (.t 109), none⟩,
  ⟨(some 20), .mv (.t 110), none⟩] false
abbrev c9_37 : AC := .reg [⟨(some 111), .mv (.t 9), none⟩,
  ⟨(some 112), .bin .neq (.t 111) (.k (.I 0)), none⟩] false
abbrev c9_38 : AC := .reg [⟨(some 113), .mv (.t 9), none⟩,
  ⟨(some 114), .mv (.t 16), none⟩,
  ⟨(some 115), .bin .eql (.t 113) (.t 114), none⟩,
  ⟨(some 116), .mv (.t 115), none⟩,
  ⟨(some 117), .mv (.t 16), (some (116, true))⟩,
  ⟨(some 118), .mv (.t 18), (some (116, true))⟩,
  ⟨(some 119), .bin .eql (.t 117) (.t 118), (some (116, true))⟩,
  ⟨(some 120), .pick (.t 116) (.t 119) (.k (.B false)), none⟩,
  ⟨(some 121), .mv (.t 120), none⟩,
  ⟨(some 122), .mv (.t 18), (some (121, true))⟩,
  ⟨(some 123), .mv (.t 20), (some (121, true))⟩,
  ⟨(some 124), .bin .eql (.t 122) (.t 123), (some (121, true))⟩,
  ⟨(some 125), .pick (.t 121) (.t 124) (.k (.B false)), none⟩,
  ⟨(some 6), .mv (.t 125), none⟩] false
abbrev c9_39 : AC := .seq c9_38 .ret
abbrev c9_40 : AC := .cond (.t 112) c9_39 .skip
abbrev c9_41 : AC := .seq c9_37 c9_40
abbrev c9_42 : AC := .reg [⟨(some 126), .mv (.t 16), none⟩,
  ⟨(some 127), .bin .eql (.t 126) (.k (.I 0)), none⟩,
  ⟨(some 128), .mv (.t 127), none⟩,
  ⟨(some 129), .mv (.t 18), (some (128, true))⟩,
  ⟨(some 130), .bin .eql (.t 129) (.k (.I 0)), (some (128, true))⟩,
  ⟨(some 131), .pick (.t 128) (.t 130) (.k (.B false)), none⟩,
  ⟨(some 132), .mv (.t 131), none⟩,
  ⟨(some 133), .mv (.t 20), (some (132, true))⟩,
  ⟨(some 134), .bin .eql (.t 133) (.k (.I 0)), (some (132, true))⟩,
  ⟨(some 135), .pick (.t 132) (.t 134) (.k (.B false)), none⟩,
  ⟨(some 136), .mv (.t 135), none⟩,
  ⟨(some 137), .mv (.t 15), (some (136, true))⟩,
  ⟨(some 138), .mv (.t 17), (some (136, true))⟩,
  ⟨(some 139), .bin .leq (.t 137) (.t 138), (some (136, true))⟩,
  ⟨(some 140), .pick (.t 136) (.t 139) (.k (.B false)), none⟩,
  ⟨(some 141), .mv (.t 140), none⟩,
  ⟨(some 142), .mv (.t 17), (some (141, true))⟩,
  ⟨(some 143), .mv (.t 19), (some (141, true))⟩,
  ⟨(some 144), .bin .leq (.t 142) (.t 143), (some (141, true))⟩,
  ⟨(some 145), .pick (.t 141) (.t 144) (.k (.B false)), none⟩,
  ⟨(some 146), .mv (.t 145), none⟩,
  ⟨(some 147), .mv (.t 19), (some (146, true))⟩,
  ⟨(some 148), .mv (.t 8), (some (146, true))⟩,
  ⟨(some 149), .bin .eql (.t 147) (.t 148), (some (146, true))⟩,
  ⟨(some 150), .pick (.t 146) (.t 149) (.k (.B false)), none⟩,
  ⟨(some 6), .mv (.t 150), none⟩] false
abbrev c9_43 : AC := .seq c9_42 .ret
abbrev c9_44 : AC := .seq c9_41 c9_43
abbrev c9_45 : AC := .seq c9_36 c9_44
abbrev c9_46 : AC := .seq c9_35 c9_45
abbrev c9_47 : AC := .seq c9_34 c9_46
abbrev c9_48 : AC := .seq c9_33 c9_47
abbrev c9_49 : AC := .seq c9_10 c9_48
abbrev c9_50 : AC := .seq c9_9 c9_49
abbrev c9_51 : AC := .seq c9_8 c9_50
abbrev c9_52 : AC := .seq c9_7 c9_51
abbrev c9_53 : AC := .seq c9_6 c9_52
abbrev c9_54 : AC := .seq c9_1 c9_53
abbrev c9 : AC := c9_54
theorem code9 : fnCode Try.prog 9 = some (c9, [6], 151) := by kernel_rfl
/- coinage/coinagelaw30.SeriationBest -/
abbrev c10_1 : AC := .reg [⟨(some 6), .mv (.k (.B false)), none⟩] false
abbrev c10_2 : AC := .reg [⟨(some 14), .call 11 [], none⟩,
  ⟨(some 15), .not (.t 14), none⟩,
  ⟨(some 16), .mv (.t 15), none⟩,
  ⟨(some 17), .mv (.t 1), (some (16, false))⟩,
  ⟨(some 18), .call 12 [(.t 17)], (some (16, false))⟩,
  ⟨(some 19), .not (.t 18), (some (16, false))⟩,
  ⟨(some 20), .pick (.t 16) (.k (.B true)) (.t 19), none⟩,
  ⟨(some 21), .mv (.t 20), none⟩,
  ⟨(some 22), .mv (.t 2), (some (21, false))⟩,
  ⟨(some 23), .len (.t 22), (some (21, false))⟩,
  ⟨(some 24), .bin .gtr (.t 23) (.k (.I 20)), (some (21, false))⟩,
  ⟨(some 25), .pick (.t 21) (.k (.B true)) (.t 24), none⟩] false
abbrev c10_3 : AC := .reg [⟨(some 26), .call 11 [], none⟩,
  ⟨(some 6), .mv (.t 26), none⟩] false
abbrev c10_4 : AC := .seq c10_3 .ret
abbrev c10_5 : AC := .cond (.t 25) c10_4 .skip
abbrev c10_6 : AC := .seq c10_2 c10_5
abbrev c10_7 : AC := .reg [⟨(some 28), .mv (.t 0), none⟩,
  ⟨(some 29), .mv (.t 1), none⟩,
  ⟨(some 30), .call 13 [(.t 28), (.t 29)], none⟩,
  ⟨(some 27), .mv (.t 30), none⟩,
  ⟨(some 31), .ext (.t 27) 0, none⟩,
  ⟨(some 32), .ext (.t 27) 1, none⟩,
  ⟨(some 33), .ext (.t 27) 2, none⟩,
  ⟨(some 7), .mv (.t 31), none⟩,
  ⟨(some 8), .mv (.t 32), none⟩,
  ⟨(some 9), .mv (.t 33), none⟩] false
abbrev c10_8 : AC := .reg [⟨(some 35), .mv (.t 0), none⟩,
  ⟨(some 36), .mv (.t 1), none⟩,
  ⟨(some 37), .mv (.t 2), none⟩,
  ⟨(some 38), .call 17 [(.t 35), (.t 36), (.t 37)], none⟩,
  ⟨(some 34), .mv (.t 38), none⟩,
  ⟨(some 39), .ext (.t 34) 0, none⟩,
  ⟨(some 40), .ext (.t 34) 1, none⟩,
  ⟨(some 10), .mv (.t 39), none⟩,
  ⟨(some 11), .mv (.t 40), none⟩] false
abbrev c10_9 : AC := .reg [⟨(some 41), .mv (.t 9), none⟩,
  ⟨(some 42), .bin .neq (.t 41) (.k (.I 0)), none⟩] false
abbrev c10_10 : AC := .reg [⟨(some 43), .mv (.t 9), none⟩,
  ⟨(some 44), .bin .eql (.t 43) (.k (.I 1)), none⟩,
  ⟨(some 45), .mv (.t 44), none⟩,
  ⟨(some 46), .mv (.t 11), (some (45, true))⟩,
  ⟨(some 47), .bin .eql (.t 46) (.k (.I 1)), (some (45, true))⟩,
  ⟨(some 48), .pick (.t 45) (.t 47) (.k (.B false)), none⟩,
  ⟨(some 49), .mv (.t 48), none⟩,
  ⟨(some 50), .mv (.t 7), (some (49, true))⟩,
  ⟨(some 51), .len (.t 50), (some (49, true))⟩,
  ⟨(some 52), .bin .eql (.t 51) (.k (.I 0)), (some (49, true))⟩,
  ⟨(some 53), .pick (.t 49) (.t 52) (.k (.B false)), none⟩,
  ⟨(some 6), .mv (.t 53), none⟩] false
abbrev c10_11 : AC := .seq c10_10 .ret
abbrev c10_12 : AC := .cond (.t 42) c10_11 .skip
abbrev c10_13 : AC := .seq c10_9 c10_12
abbrev c10_14 : AC := .reg [⟨(some 55), .mv (.t 0), none⟩,
  ⟨(some 56), .mv (.t 1), none⟩,
  ⟨(some 57), .mv (.t 7), none⟩,
  ⟨(some 58), .call 17 [(.t 55), (.t 56), (.t 57)], none⟩,
  ⟨(some 54), .mv (.t 58), none⟩,
  ⟨(some 59), .ext (.t 54) 0, none⟩,
  ⟨(some 60), .ext (.t 54) 1, none⟩,
  ⟨(some 12), .mv (.t 59), none⟩,
  ⟨(some 13), .mv (.t 60), none⟩] false
abbrev c10_15 : AC := .reg [⟨(some 61), .mv (.t 13), none⟩,
  ⟨(some 62), .bin .neq (.t 61) (.k (.I 0)), none⟩,
  ⟨(some 63), .mv (.t 62), none⟩,
  ⟨(some 64), .mv (.t 12), (some (63, false))⟩,
  ⟨(some 65), .mv (.t 8), (some (63, false))⟩,
  ⟨(some 66), .bin .neq (.t 64) (.t 65), (some (63, false))⟩,
  ⟨(some 67), .pick (.t 63) (.k (.B true)) (.t 66), none⟩,
  ⟨(some 68), .mv (.t 67), none⟩,
  ⟨(some 69), .mv (.t 11), (some (68, false))⟩,
  ⟨(some 70), .bin .eql (.t 69) (.k (.I 0)), (some (68, false))⟩,
  ⟨(some 71), .mv (.t 70), (some (68, false))⟩,
  ⟨(some 72), .mv (.t 10), (some (71, true))⟩,
  ⟨(some 73), .mv (.t 8), (some (71, true))⟩,
  ⟨(some 74), .bin .lss (.t 72) (.t 73), (some (71, true))⟩,
  ⟨(some 75), .pick (.t 71) (.t 74) (.k (.B false)), (some (68, false))⟩,
  ⟨(some 76), .pick (.t 68) (.k (.B true)) (.t 75), none⟩] false
abbrev c10_16 : AC := .reg [⟨(some 6), .mv (.k (.B false)), none⟩] false
abbrev c10_17 : AC := .seq c10_16 .ret
abbrev c10_18 : AC := .cond (.t 76) c10_17 .skip
abbrev c10_19 : AC := .seq c10_15 c10_18
abbrev c10_20 : AC := .reg [⟨(some 77), .mv (.t 8), none⟩,
  ⟨(some 78), .bin .eql (.t 77) (.k (.I 0)), none⟩,
  ⟨(some 79), .mv (.t 0), none⟩,
  ⟨(some 80), .mv (.t 1), none⟩,
  ⟨(some 81), .call 30 [(.t 79), (.t 80)], none⟩,
  ⟨(some 82), .beq false (.t 78) (.t 81), none⟩,
  ⟨(some 6), .mv (.t 82), none⟩] false
abbrev c10_21 : AC := .seq c10_20 .ret
abbrev c10_22 : AC := .seq c10_19 c10_21
abbrev c10_23 : AC := .seq c10_14 c10_22
abbrev c10_24 : AC := .seq c10_13 c10_23
abbrev c10_25 : AC := .seq c10_8 c10_24
abbrev c10_26 : AC := .seq c10_7 c10_25
abbrev c10_27 : AC := .seq c10_6 c10_26
abbrev c10_28 : AC := .seq c10_1 c10_27
abbrev c10 : AC := c10_28
theorem code10 : fnCode Try.prog 10 = some (c10, [6], 83) := by kernel_rfl
/- coinage/coinagelaw30.awake -/
abbrev c11_1 : AC := .reg [⟨(some 0), .mv (.k (.B false)), none⟩] false
abbrev c11_2 : AC := .reg [⟨(some 7), .bslice 3 1 [(.k (.I 0)), (.k (.I 1))], none⟩,
  ⟨(some 8), .bslice 3 1 [(.k (.I 1)), (.k (.I 2))], none⟩,
  ⟨(some 9), .bslice 3 1 [(.k (.I 2)), (.k (.I 3))], none⟩,
  ⟨(some 10), .bslice 3 1 [(.k (.I 0)), (.k (.I 3))], none⟩,
  ⟨(some 11), .bslice 25 1 [(.t 7), (.t 8), (.t 9), (.t 10)], none⟩,
  ⟨(some 1), .mv (.t 11), none⟩] false
abbrev c11_3 : AC := .reg [⟨(some 13), .mv (.t 1), none⟩,
  ⟨(some 14), .call 13 [(.k (.I 4)), (.t 13)], none⟩,
  ⟨(some 12), .mv (.t 14), none⟩,
  ⟨(some 15), .ext (.t 12) 0, none⟩,
  ⟨(some 16), .ext (.t 12) 1, none⟩,
  ⟨(some 17), .ext (.t 12) 2, none⟩,
  ⟨(some 2), .mv (.t 15), none⟩,
  ⟨(some 3), .mv (.t 16), none⟩,
  ⟨(some 4), .mv (.t 17), none⟩] false
abbrev c11_4 : AC := .reg [⟨(some 19), .mv (.t 1), none⟩,
  ⟨(some 20), .bslice 3 1 [(.k (.I 0)), (.k (.I 2)), (.k (.I 1)), (.k (.I 3))], none⟩,
  ⟨(some 21), .call 16 [(.k (.I 4)), (.t 19), (.t 20)], none⟩,
  ⟨(some 18), .mv (.t 21), none⟩,
  ⟨(some 22), .ext (.t 18) 0, none⟩,
  ⟨(some 23), .ext (.t 18) 1, none⟩,
  ⟨(some 5), .mv (.t 22), none⟩,
  ⟨(some 6), .mv (.t 23), none⟩] false
abbrev c11_5 : AC := .reg [⟨(some 24), .mv (.t 4), none⟩,
  ⟨(some 25), .bin .eql (.t 24) (.k (.I 0)), none⟩,
  ⟨(some 26), .mv (.t 25), none⟩,
  ⟨(some 27), .mv (.t 2), (some (26, true))⟩,
  ⟨(some 28), .bslice 3 1 [(.k (.I 0)), (.k (.I 1)), (.k (.I 2)), (.k (.I 3))], (some (26, true))⟩,
  ⟨(some 29), .call 15 [(.t 27), (.t 28)], (some (26, true))⟩,
  ⟨(some 30), .pick (.t 26) (.t 29) (.k (.B false)), none⟩,
  ⟨(some 31), .mv (.t 30), none⟩,
  ⟨(some 32), .mv (.t 3), (some (31, true))⟩,
  ⟨(some 33), .bin .eql (.t 32) (.k (.I 1)), (some (31, true))⟩,
  ⟨(some 34), .pick (.t 31) (.t 33) (.k (.B false)), none⟩,
  ⟨(some 35), .mv (.t 34), none⟩,
  ⟨(some 36), .mv (.t 6), (some (35, true))⟩,
  ⟨(some 37), .bin .eql (.t 36) (.k (.I 0)), (some (35, true))⟩,
  ⟨(some 38), .pick (.t 35) (.t 37) (.k (.B false)), none⟩,
  ⟨(some 39), .mv (.t 38), none⟩,
  ⟨(some 40), .mv (.t 5), (some (39, true))⟩,
  ⟨(some 41), .bin .eql (.t 40) (.k (.I 3)), (some (39, true))⟩,
  ⟨(some 42), .pick (.t 39) (.t 41) (.k (.B false)), none⟩,
  ⟨(some 43), .mv (.t 42), none⟩,
  ⟨(some 44), .bslice 3 1 [(.k (.I 1)), (.k (.I 2))], (some (43, true))⟩,
  ⟨(some 45), .call 19 [(.t 44)], (some (43, true))⟩,
  ⟨(some 46), .bslice 3 1 [(.k (.I 2)), (.k (.I 1))], (some (43, true))⟩,
  ⟨(some 47), .call 15 [(.t 45), (.t 46)], (some (43, true))⟩,
  ⟨(some 48), .pick (.t 43) (.t 47) (.k (.B false)), none⟩,
  ⟨(some 0), .mv (.t 48), none⟩] false
abbrev c11_6 : AC := .seq c11_5 .ret
abbrev c11_7 : AC := .seq c11_4 c11_6
abbrev c11_8 : AC := .seq c11_3 c11_7
abbrev c11_9 : AC := .seq c11_2 c11_8
abbrev c11_10 : AC := .seq c11_1 c11_9
abbrev c11 : AC := c11_10
theorem code11 : fnCode Try.prog 11 = some (c11, [0], 49) := by kernel_rfl
/- coinage/coinagelaw30.few -/
abbrev c12_1 : AC := .reg [⟨(some 2), .mv (.k (.B false)), none⟩] false
abbrev c12_2 : AC := .reg [⟨(some 3), .mv (.k (.I 0)), none⟩] false
abbrev c12_3 : AC := .reg [⟨(some 4), .mv (.t 3), none⟩,
  ⟨(some 5), .mv (.t 0), none⟩,
  ⟨(some 6), .len (.t 5), none⟩,
  ⟨(some 7), .bin .lss (.t 4) (.t 6), none⟩] false
abbrev c12_4 : AC := .cond (.t 7) .skip (.exit 0)
abbrev c12_5 : AC := .seq c12_3 c12_4
abbrev c12_6 : AC := .reg [⟨(some 10), .mv (.t 0), none⟩,
  ⟨(some 11), .mv (.t 3), none⟩,
  ⟨(some 12), .iad 1 (.t 10) (.t 11), none⟩,
  ⟨(some 13), .ld none (.t 12), none⟩,
  ⟨(some 14), .len (.t 13), none⟩,
  ⟨(some 15), .bin .gtr (.t 14) (.k (.I 20)), none⟩] false
abbrev c12_7 : AC := .reg [⟨(some 2), .mv (.k (.B false)), none⟩] false
abbrev c12_8 : AC := .seq c12_7 .ret
abbrev c12_9 : AC := .cond (.t 15) c12_8 .skip
abbrev c12_10 : AC := .seq c12_6 c12_9
abbrev c12_11 : AC := .block 1 c12_10
abbrev c12_12 : AC := .reg [⟨(some 8), .mv (.t 3), none⟩,
  ⟨(some 9), .bin .add (.t 8) (.k (.I 1)), none⟩,
  ⟨(some 3), .mv (.t 9), none⟩] false
abbrev c12_13 : AC := .seq c12_11 c12_12
abbrev c12_14 : AC := .seq c12_5 c12_13
abbrev c12_15 : AC := .loop c12_14
abbrev c12_16 : AC := .block 0 c12_15
abbrev c12_17 : AC := .seq c12_2 c12_16
abbrev c12_18 : AC := .reg [⟨(some 16), .mv (.t 0), none⟩,
  ⟨(some 17), .len (.t 16), none⟩,
  ⟨(some 18), .bin .leq (.t 17) (.k (.I 20)), none⟩,
  ⟨(some 2), .mv (.t 18), none⟩] false
abbrev c12_19 : AC := .seq c12_18 .ret
abbrev c12_20 : AC := .seq c12_17 c12_19
abbrev c12_21 : AC := .seq c12_1 c12_20
abbrev c12 : AC := c12_21
theorem code12 : fnCode Try.prog 12 = some (c12, [2], 19) := by kernel_rfl
/- coinage/seriation.Least -/
abbrev c13_1 : AC := .reg [⟨(some 4), .mv (.k (.c .nil)), none⟩,
  ⟨(some 5), .mv (.k (.I 0)), none⟩,
  ⟨(some 6), .mv (.k (.I 0)), none⟩] false
abbrev c13_2 : AC := .reg [⟨(some 9), .mv (.t 0), none⟩,
  ⟨(some 10), .mv (.t 1), none⟩,
  ⟨(some 11), .call 31 [(.t 9), (.t 10)], none⟩,
  ⟨(some 12), .not (.t 11), none⟩] false
abbrev c13_3 : AC := .reg [⟨(some 4), .mv (.k (.c .nil)), none⟩,
  ⟨(some 5), .mv (.k (.I 0)), none⟩,
  ⟨(some 6), .mv (.k (.I 1)), none⟩] false
abbrev c13_4 : AC := .seq c13_3 .ret
abbrev c13_5 : AC := .cond (.t 12) c13_4 .skip
abbrev c13_6 : AC := .seq c13_2 c13_5
abbrev c13_7 : AC := .reg [⟨(some 14), .mv (.t 0), none⟩,
  ⟨(some 15), .mv (.t 1), none⟩,
  ⟨(some 16), .call 32 [(.t 14), (.t 15)], none⟩,
  ⟨(some 13), .mv (.t 16), none⟩,
  ⟨(some 17), .ext (.t 13) 0, none⟩,
  ⟨(some 18), .ext (.t 13) 1, none⟩,
  ⟨(some 7), .mv (.t 17), none⟩,
  ⟨(some 8), .mv (.t 18), none⟩] false
abbrev c13_8 : AC := .reg [⟨(some 19), .mv (.t 7), none⟩,
  ⟨(some 20), .mv (.t 8), none⟩,
  ⟨(some 4), .mv (.t 19), none⟩,
  ⟨(some 5), .mv (.t 20), none⟩,
  ⟨(some 6), .mv (.k (.I 0)), none⟩] false
abbrev c13_9 : AC := .seq c13_8 .ret
abbrev c13_10 : AC := .seq c13_7 c13_9
abbrev c13_11 : AC := .seq c13_6 c13_10
abbrev c13_12 : AC := .seq c13_1 c13_11
abbrev c13 : AC := c13_12
theorem code13 : fnCode Try.prog 13 = some (c13, [4, 5, 6], 21) := by kernel_rfl
/- coinage/coinageref30.Least -/
abbrev c14_1 : AC := .reg [⟨(some 4), .mv (.k (.c .nil)), none⟩,
  ⟨(some 5), .mv (.k (.I 0)), none⟩,
  ⟨(some 6), .mv (.k (.I 0)), none⟩] false
abbrev c14_2 : AC := .reg [⟨(some 14), .mv (.t 0), none⟩,
  ⟨(some 15), .mv (.t 1), none⟩,
  ⟨(some 16), .call 21 [(.t 14), (.t 15)], none⟩,
  ⟨(some 17), .not (.t 16), none⟩] false
abbrev c14_3 : AC := .reg [⟨(some 4), .mv (.k (.c .nil)), none⟩,
  ⟨(some 5), .mv (.k (.I 0)), none⟩,
  ⟨(some 6), .mv (.k (.I 1)), none⟩] false
abbrev c14_4 : AC := .seq c14_3 .ret
abbrev c14_5 : AC := .cond (.t 17) c14_4 .skip
abbrev c14_6 : AC := .seq c14_2 c14_5
abbrev c14_7 : AC := .reg [⟨(some 18), .mv (.t 0), none⟩,
  ⟨(some 19), .mks 3 1 8 [(.sc (.int .i64 0))] (.t 18) (.t 18), none⟩,
  ⟨(some 7), .mv (.t 19), none⟩] false
abbrev c14_8 : AC := .reg [⟨(some 8), .mv (.k (.I 0)), none⟩] false
abbrev c14_9 : AC := .reg [⟨(some 20), .mv (.t 8), none⟩,
  ⟨(some 21), .mv (.t 0), none⟩,
  ⟨(some 22), .bin .lss (.t 20) (.t 21), none⟩] false
abbrev c14_10 : AC := .cond (.t 22) .skip (.exit 0)
abbrev c14_11 : AC := .seq c14_9 c14_10
abbrev c14_12 : AC := .reg [⟨(some 25), .mv (.t 7), none⟩,
  ⟨(some 26), .mv (.t 8), none⟩,
  ⟨(some 27), .mv (.t 8), none⟩,
  ⟨(some 28), .iad 1 (.t 25) (.t 26), none⟩,
  ⟨none, .st none (.t 28) (.t 27), none⟩] false
abbrev c14_13 : AC := .block 1 c14_12
abbrev c14_14 : AC := .reg [⟨(some 23), .mv (.t 8), none⟩,
  ⟨(some 24), .bin .add (.t 23) (.k (.I 1)), none⟩,
  ⟨(some 8), .mv (.t 24), none⟩] false
abbrev c14_15 : AC := .seq c14_13 c14_14
abbrev c14_16 : AC := .seq c14_11 c14_15
abbrev c14_17 : AC := .loop c14_16
abbrev c14_18 : AC := .block 0 c14_17
abbrev c14_19 : AC := .seq c14_8 c14_18
abbrev c14_20 : AC := .reg [⟨(some 29), .mv (.t 7), none⟩,
  ⟨(some 30), .mv (.t 1), none⟩,
  ⟨(some 31), .mv (.t 7), none⟩,
  ⟨(some 32), .call 33 [(.t 30), (.t 31)], none⟩,
  ⟨(some 9), .mv (.t 29), none⟩,
  ⟨(some 10), .mv (.t 32), none⟩] false
abbrev c14_21 : AC := .reg [⟨(some 34), .mv (.t 7), none⟩,
  ⟨(some 35), .call 34 [(.t 34)], none⟩,
  ⟨(some 33), .mv (.t 35), none⟩,
  ⟨(some 36), .ext (.t 33) 0, none⟩,
  ⟨(some 37), .ext (.t 33) 1, none⟩,
  ⟨(some 11), .mv (.t 36), none⟩,
  ⟨(some 12), .mv (.t 37), none⟩] false
abbrev c14_22 : AC := .reg [⟨(some 38), .mv (.t 12), none⟩,
  ⟨(some 39), .not (.t 38), none⟩] false
abbrev c14_23 : AC := .reg [⟨(some 40), .mv (.t 9), none⟩,
  ⟨(some 41), .mv (.t 10), none⟩,
  ⟨(some 4), .mv (.t 40), none⟩,
  ⟨(some 5), .mv (.t 41), none⟩,
  ⟨(some 6), .mv (.k (.I 0)), none⟩] false
abbrev c14_24 : AC := .seq c14_23 .ret
abbrev c14_25 : AC := .cond (.t 39) c14_24 .skip
abbrev c14_26 : AC := .seq c14_22 c14_25
abbrev c14_27 : AC := .reg [⟨(some 42), .mv (.t 11), none⟩,
  ⟨(some 7), .mv (.t 42), none⟩] false
abbrev c14_28 : AC := .reg [⟨(some 43), .mv (.t 1), none⟩,
  ⟨(some 44), .mv (.t 7), none⟩,
  ⟨(some 45), .call 33 [(.t 43), (.t 44)], none⟩,
  ⟨(some 13), .mv (.t 45), none⟩] false
abbrev c14_29 : AC := .reg [⟨(some 46), .mv (.t 13), none⟩,
  ⟨(some 47), .mv (.t 10), none⟩,
  ⟨(some 48), .bin .lss (.t 46) (.t 47), none⟩] false
abbrev c14_30 : AC := .reg [⟨(some 49), .mv (.t 7), none⟩,
  ⟨(some 50), .mv (.t 13), none⟩,
  ⟨(some 9), .mv (.t 49), none⟩,
  ⟨(some 10), .mv (.t 50), none⟩] false
abbrev c14_31 : AC := .cond (.t 48) c14_30 .skip
abbrev c14_32 : AC := .seq c14_29 c14_31
abbrev c14_33 : AC := .seq c14_28 c14_32
abbrev c14_34 : AC := .seq c14_27 c14_33
abbrev c14_35 : AC := .seq c14_26 c14_34
abbrev c14_36 : AC := .seq c14_21 c14_35
abbrev c14_37 : AC := .block 3 c14_36
abbrev c14_38 : AC := .loop c14_37
abbrev c14_39 : AC := .block 2 c14_38
abbrev c14_40 : AC := .seq c14_20 c14_39
abbrev c14_41 : AC := .seq c14_19 c14_40
abbrev c14_42 : AC := .seq c14_7 c14_41
abbrev c14_43 : AC := .seq c14_6 c14_42
abbrev c14_44 : AC := .seq c14_1 c14_43
abbrev c14 : AC := c14_44
theorem code14 : fnCode Try.prog 14 = some (c14, [4, 5, 6], 51) := by kernel_rfl
/- coinage/seriation.Cost -/
abbrev c16_1 : AC := .reg [⟨(some 6), .mv (.k (.I 0)), none⟩,
  ⟨(some 7), .mv (.k (.I 0)), none⟩] false
abbrev c16_2 : AC := .reg [⟨(some 19), .mv (.t 0), none⟩,
  ⟨(some 20), .mv (.t 1), none⟩,
  ⟨(some 21), .mv (.t 2), none⟩,
  ⟨(some 22), .call 18 [(.t 19), (.t 20), (.t 21)], none⟩,
  ⟨(some 18), .mv (.t 22), none⟩,
  ⟨(some 23), .ext (.t 18) 0, none⟩,
  ⟨(some 24), .ext (.t 18) 1, none⟩,
  ⟨(some 8), .mv (.t 23), none⟩,
  ⟨(some 9), .mv (.t 24), none⟩] false
abbrev c16_3 : AC := .reg [⟨(some 25), .mv (.t 9), none⟩,
  ⟨(some 26), .bin .neq (.t 25) (.k (.I 0)), none⟩,
  ⟨(some 27), .mv (.t 26), none⟩,
  ⟨(some 28), .mv (.t 0), (some (27, false))⟩,
  ⟨(some 29), .bin .eql (.t 28) (.k (.I 0)), (some (27, false))⟩,
  ⟨(some 30), .pick (.t 27) (.k (.B true)) (.t 29), none⟩] false
abbrev c16_4 : AC := .reg [⟨(some 31), .mv (.t 9), none⟩,
  ⟨(some 6), .mv (.k (.I 0)), none⟩,
  ⟨(some 7), .mv (.t 31), none⟩] false
abbrev c16_5 : AC := .seq c16_4 .ret
abbrev c16_6 : AC := .cond (.t 30) c16_5 .skip
abbrev c16_7 : AC := .seq c16_3 c16_6
abbrev c16_8 : AC := .reg [⟨(some 10), .mv (.k (.I 0)), none⟩,
  ⟨(some 11), .mv (.k (.I 0)), none⟩] false
abbrev c16_9 : AC := .reg [⟨(some 32), .mv (.t 8), none⟩,
  ⟨(some 33), .len (.t 32), none⟩,
  ⟨(some 34), .mv (.k (.I 0)), none⟩] false
abbrev c16_10 : AC := .reg [⟨(some 35), .bin .lss (.t 34) (.t 33), none⟩] false
abbrev c16_11 : AC := .cond (.t 35) .skip (.exit 0)
abbrev c16_12 : AC := .reg [⟨(some 36), .iad 1 (.t 32) (.t 34), none⟩,
  ⟨(some 37), .ld none (.t 36), none⟩,
  ⟨(some 13), .mv (.t 37), none⟩] false
abbrev c16_13 : AC := .reg [⟨(some 38), .mv (.t 10), none⟩,
  ⟨(some 39), .mv (.t 13), none⟩,
  ⟨(some 40), .bin .add (.t 38) (.t 39), none⟩,
  ⟨(some 10), .mv (.t 40), none⟩] false
abbrev c16_14 : AC := .seq c16_12 c16_13
abbrev c16_15 : AC := .block 1 c16_14
abbrev c16_16 : AC := .reg [⟨(some 41), .bin .add (.t 34) (.k (.I 1)), none⟩,
  ⟨(some 34), .mv (.t 41), none⟩] false
abbrev c16_17 : AC := .seq c16_15 c16_16
abbrev c16_18 : AC := .seq c16_11 c16_17
abbrev c16_19 : AC := .seq c16_10 c16_18
abbrev c16_20 : AC := .loop c16_19
abbrev c16_21 : AC := .block 0 c16_20
abbrev c16_22 : AC := .seq c16_9 c16_21
abbrev c16_23 : AC := .reg [⟨(some 42), .mv (.t 0), none⟩,
  ⟨(some 43), .mv (.t 1), none⟩,
  ⟨(some 44), .call 35 [(.t 42), (.t 43)], none⟩,
  ⟨(some 45), .nilck (.t 44), none⟩,
  ⟨(some 46), .fad 1 (.t 45), none⟩,
  ⟨(some 47), .ld none (.t 46), none⟩,
  ⟨(some 48), .len (.t 47), none⟩,
  ⟨(some 49), .mv (.k (.I 0)), none⟩] false
abbrev c16_24 : AC := .reg [⟨(some 50), .bin .lss (.t 49) (.t 48), none⟩] false
abbrev c16_25 : AC := .cond (.t 50) .skip (.exit 2)
abbrev c16_26 : AC := .reg [⟨(some 51), .mv (.t 49), none⟩,
  ⟨(some 52), .iad 1 (.t 47) (.t 49), none⟩,
  ⟨(some 53), .ld none (.t 52), none⟩,
  ⟨(some 14), .mv (.t 51), none⟩,
  ⟨(some 15), .mv (.t 53), none⟩] false
abbrev c16_27 : AC := .regD [(⟨(some 54), .mv (.t 2), none⟩, [2]),
  (⟨(some 55), .iad 1 (.t 54) (.k (.I 0)), none⟩, [54]),
  (⟨(some 56), .ld none (.t 55), none⟩, [55]),
  (⟨(some 57), .mv (.t 2), none⟩, [2]),
  (⟨(some 58), .mv (.t 0), none⟩, [0]),
  (⟨(some 59), .bin .sub (.t 58) (.k (.I 1)), none⟩, [58]),
  (⟨(some 60), .iad 1 (.t 57) (.t 59), none⟩, [57, 59]),
  (⟨(some 61), .ld none (.t 60), none⟩, [60]),
  (⟨(some 62), .build [(.I 0), (.I 0)] [(0, 1, (.t 56)), (1, 1, (.t 61))], none⟩, [56, 61]),
  (⟨(some 63), .mv (.k (.I 0)), none⟩, [])]
abbrev c16_28 : AC := .reg [⟨(some 64), .bin .lss (.t 63) (.k (.I 2)), none⟩] false
abbrev c16_29 : AC := .cond (.t 64) .skip (.exit 4)
abbrev c16_30 : AC := .reg [⟨(some 65), .idx 2 1 false (.t 62) (.t 63), none⟩,
  ⟨(some 17), .mv (.t 65), none⟩] false
abbrev c16_31 : AC := .reg [⟨(some 66), .mv (.t 15), none⟩,
  ⟨(some 67), .mv (.t 17), none⟩,
  ⟨(some 68), .iad 1 (.t 66) (.t 67), none⟩,
  ⟨(some 69), .ld none (.t 68), none⟩] false
abbrev c16_32 : AC := .reg [⟨(some 70), .mv (.t 10), none⟩,
  ⟨(some 71), .bin .add (.t 70) (.k (.I 1)), none⟩,
  ⟨(some 10), .mv (.t 71), none⟩] false
abbrev c16_33 : AC := .cond (.t 69) c16_32 .skip
abbrev c16_34 : AC := .seq c16_31 c16_33
abbrev c16_35 : AC := .seq c16_30 c16_34
abbrev c16_36 : AC := .block 5 c16_35
abbrev c16_37 : AC := .reg [⟨(some 72), .bin .add (.t 63) (.k (.I 1)), none⟩,
  ⟨(some 63), .mv (.t 72), none⟩] false
abbrev c16_38 : AC := .seq c16_36 c16_37
abbrev c16_39 : AC := .seq c16_29 c16_38
abbrev c16_40 : AC := .seq c16_28 c16_39
abbrev c16_41 : AC := .loop c16_40
abbrev c16_42 : AC := .block 4 c16_41
abbrev c16_43 : AC := .seq c16_27 c16_42
abbrev c16_44 : AC := .reg [⟨(some 73), .mv (.t 1), none⟩,
  ⟨(some 74), .mv (.t 14), none⟩,
  ⟨(some 75), .iad 1 (.t 73) (.t 74), none⟩,
  ⟨(some 76), .ld none (.t 75), none⟩,
  ⟨(some 77), .len (.t 76), none⟩,
  ⟨(some 78), .bin .gtr (.t 77) (.k (.I 0)), none⟩] false
abbrev c16_45 : AC := .reg [⟨(some 79), .mv (.t 11), none⟩,
  ⟨(some 80), .bin .add (.t 79) (.k (.I 1)), none⟩,
  ⟨(some 11), .mv (.t 80), none⟩] false
abbrev c16_46 : AC := .cond (.t 78) c16_45 .skip
abbrev c16_47 : AC := .seq c16_44 c16_46
abbrev c16_48 : AC := .seq c16_43 c16_47
abbrev c16_49 : AC := .seq c16_26 c16_48
abbrev c16_50 : AC := .block 3 c16_49
abbrev c16_51 : AC := .reg [⟨(some 81), .bin .add (.t 49) (.k (.I 1)), none⟩,
  ⟨(some 49), .mv (.t 81), none⟩] false
abbrev c16_52 : AC := .seq c16_50 c16_51
abbrev c16_53 : AC := .seq c16_25 c16_52
abbrev c16_54 : AC := .seq c16_24 c16_53
abbrev c16_55 : AC := .loop c16_54
abbrev c16_56 : AC := .block 2 c16_55
abbrev c16_57 : AC := .seq c16_23 c16_56
abbrev c16_58 : AC := .reg [⟨(some 82), .mv (.t 10), none⟩,
  ⟨(some 83), .bin .quo (.t 82) (.k (.I 2)), none⟩,
  ⟨(some 84), .mv (.t 11), none⟩,
  ⟨(some 85), .bin .sub (.t 83) (.t 84), none⟩,
  ⟨(some 6), .mv (.t 85), none⟩,
  ⟨(some 7), .mv (.k (.I 0)), none⟩] false
abbrev c16_59 : AC := .seq c16_58 .ret
abbrev c16_60 : AC := .seq c16_57 c16_59
abbrev c16_61 : AC := .seq c16_22 c16_60
abbrev c16_62 : AC := .seq c16_8 c16_61
abbrev c16_63 : AC := .seq c16_7 c16_62
abbrev c16_64 : AC := .seq c16_2 c16_63
abbrev c16_65 : AC := .seq c16_1 c16_64
abbrev c16 : AC := c16_65
theorem code16 : fnCode Try.prog 16 = some (c16, [6, 7], 86) := by kernel_rfl
/- coinage/seriation.Adjacent -/
abbrev c18_1 : AC := .reg [⟨(some 6), .mv (.k (.c .nil)), none⟩,
  ⟨(some 7), .mv (.k (.I 0)), none⟩] false
abbrev c18_2 : AC := .reg [⟨(some 17), .mv (.t 0), none⟩,
  ⟨(some 18), .mv (.t 1), none⟩,
  ⟨(some 19), .mv (.t 2), none⟩,
  ⟨(some 20), .call 17 [(.t 17), (.t 18), (.t 19)], none⟩,
  ⟨(some 16), .mv (.t 20), none⟩,
  ⟨(some 21), .ext (.t 16) 0, none⟩,
  ⟨(some 22), .ext (.t 16) 1, none⟩,
  ⟨(some 8), .mv (.t 21), none⟩,
  ⟨(some 9), .mv (.t 22), none⟩] false
abbrev c18_3 : AC := .reg [⟨(some 23), .mv (.t 9), none⟩,
  ⟨(some 24), .bin .neq (.t 23) (.k (.I 0)), none⟩] false
abbrev c18_4 : AC := .reg [⟨(some 25), .mv (.t 9), none⟩,
  ⟨(some 6), .mv (.k (.c .nil)), none⟩,
  ⟨(some 7), .mv (.t 25), none⟩] false
abbrev c18_5 : AC := .seq c18_4 .ret
abbrev c18_6 : AC := .cond (.t 24) c18_5 .skip
abbrev c18_7 : AC := .seq c18_3 c18_6
abbrev c18_8 : AC := .seq c18_2 c18_7
abbrev c18_9 : AC := .reg [⟨(some 26), .mv (.t 0), none⟩,
  ⟨(some 27), .mv (.t 1), none⟩,
  ⟨(some 28), .call 35 [(.t 26), (.t 27)], none⟩,
  ⟨(some 10), .mv (.t 28), none⟩] false
abbrev c18_10 : AC := .reg [⟨(some 11), .mv (.k (.c .nil)), none⟩] false
abbrev c18_11 : AC := .reg [⟨(some 12), .mv (.k (.I 1)), none⟩] false
abbrev c18_12 : AC := .reg [⟨(some 29), .mv (.t 12), none⟩,
  ⟨(some 30), .mv (.t 0), none⟩,
  ⟨(some 31), .bin .lss (.t 29) (.t 30), none⟩] false
abbrev c18_13 : AC := .cond (.t 31) .skip (.exit 0)
abbrev c18_14 : AC := .seq c18_12 c18_13
abbrev c18_15 : AC := .reg [⟨(some 13), .mv (.k (.I 0)), none⟩] false
abbrev c18_16 : AC := .reg [⟨(some 34), .mv (.t 10), none⟩,
  ⟨(some 35), .nilck (.t 34), none⟩,
  ⟨(some 36), .fad 1 (.t 35), none⟩,
  ⟨(some 37), .ld none (.t 36), none⟩,
  ⟨(some 38), .len (.t 37), none⟩,
  ⟨(some 39), .mv (.k (.I 0)), none⟩] false
abbrev c18_17 : AC := .reg [⟨(some 40), .bin .lss (.t 39) (.t 38), none⟩] false
abbrev c18_18 : AC := .cond (.t 40) .skip (.exit 2)
abbrev c18_19 : AC := .reg [⟨(some 41), .iad 1 (.t 37) (.t 39), none⟩,
  ⟨(some 42), .ld none (.t 41), none⟩,
  ⟨(some 15), .mv (.t 42), none⟩] false
abbrev c18_20 : AC := .regD [(⟨(some 43), .mv (.t 15), none⟩, [15]),
  (⟨(some 44), .mv (.t 2), none⟩, [2]),
  (⟨(some 45), .mv (.t 12), none⟩, [12]),
  (⟨(some 46), .bin .sub (.t 45) (.k (.I 1)), none⟩, [45]),
  (⟨(some 47), .iad 1 (.t 44) (.t 46), none⟩, [44, 46]),
  (⟨(some 48), .ld none (.t 47), none⟩, [47]),
  (⟨(some 49), .iad 1 (.t 43) (.t 48), none⟩, [43, 48]),
  (⟨(some 50), .ld none (.t 49), none⟩, [49]),
  (⟨(some 51), .mv (.t 15), none⟩, [15]),
  (⟨(some 52), .mv (.t 2), none⟩, [2]),
  (⟨(some 53), .mv (.t 12), none⟩, [12]),
  (⟨(some 54), .iad 1 (.t 52) (.t 53), none⟩, [52, 53]),
  (⟨(some 55), .ld none (.t 54), none⟩, [54]),
  (⟨(some 56), .iad 1 (.t 51) (.t 55), none⟩, [51, 55]),
  (⟨(some 57), .ld none (.t 56), none⟩, [56]),
  (⟨(some 58), .beq true (.t 50) (.t 57), none⟩, [50, 57])]
abbrev c18_21 : AC := .reg [⟨(some 59), .mv (.t 13), none⟩,
  ⟨(some 60), .bin .add (.t 59) (.k (.I 1)), none⟩,
  ⟨(some 13), .mv (.t 60), none⟩] false
abbrev c18_22 : AC := .cond (.t 58) c18_21 .skip
abbrev c18_23 : AC := .seq c18_20 c18_22
abbrev c18_24 : AC := .seq c18_19 c18_23
abbrev c18_25 : AC := .block 3 c18_24
abbrev c18_26 : AC := .reg [⟨(some 61), .bin .add (.t 39) (.k (.I 1)), none⟩,
  ⟨(some 39), .mv (.t 61), none⟩] false
abbrev c18_27 : AC := .seq c18_25 c18_26
abbrev c18_28 : AC := .seq c18_18 c18_27
abbrev c18_29 : AC := .seq c18_17 c18_28
abbrev c18_30 : AC := .loop c18_29
abbrev c18_31 : AC := .block 2 c18_30
abbrev c18_32 : AC := .seq c18_16 c18_31
abbrev c18_33 : AC := .reg [⟨(some 62), .mv (.t 11), none⟩,
  ⟨(some 63), .mv (.t 13), none⟩,
  ⟨(some 64), .bslice 3 1 [(.t 63)], none⟩,
  ⟨(some 65), .app 3 1 8 (.t 62) (.t 64), none⟩,
  ⟨(some 11), .mv (.t 65), none⟩] false
abbrev c18_34 : AC := .seq c18_32 c18_33
abbrev c18_35 : AC := .seq c18_15 c18_34
abbrev c18_36 : AC := .block 1 c18_35
abbrev c18_37 : AC := .reg [⟨(some 32), .mv (.t 12), none⟩,
  ⟨(some 33), .bin .add (.t 32) (.k (.I 1)), none⟩,
  ⟨(some 12), .mv (.t 33), none⟩] false
abbrev c18_38 : AC := .seq c18_36 c18_37
abbrev c18_39 : AC := .seq c18_14 c18_38
abbrev c18_40 : AC := .loop c18_39
abbrev c18_41 : AC := .block 0 c18_40
abbrev c18_42 : AC := .seq c18_11 c18_41
abbrev c18_43 : AC := .reg [⟨(some 66), .mv (.t 11), none⟩,
  ⟨(some 6), .mv (.t 66), none⟩,
  ⟨(some 7), .mv (.k (.I 0)), none⟩] false
abbrev c18_44 : AC := .seq c18_43 .ret
abbrev c18_45 : AC := .seq c18_42 c18_44
abbrev c18_46 : AC := .seq c18_10 c18_45
abbrev c18_47 : AC := .seq c18_9 c18_46
abbrev c18_48 : AC := .seq c18_8 c18_47
abbrev c18_49 : AC := .seq c18_1 c18_48
abbrev c18 : AC := c18_49
theorem code18 : fnCode Try.prog 18 = some (c18, [6, 7], 67) := by kernel_rfl
/- coinage/seriation.Turned -/
abbrev c19_1 : AC := .reg [⟨(some 2), .mv (.k (.c .nil)), none⟩] false
abbrev c19_2 : AC := .reg [⟨(some 4), .mv (.t 0), none⟩,
  ⟨(some 5), .call 37 [(.t 4)], none⟩,
  ⟨(some 3), .mv (.t 5), none⟩] false
abbrev c19_3 : AC := .reg [⟨(some 6), .mv (.t 3), none⟩,
  ⟨(some 7), .call 38 [(.t 6)], none⟩] false
abbrev c19_4 : AC := .reg [⟨(some 8), .mv (.t 3), none⟩,
  ⟨(some 2), .mv (.t 8), none⟩] false
abbrev c19_5 : AC := .seq c19_4 .ret
abbrev c19_6 : AC := .seq c19_3 c19_5
abbrev c19_7 : AC := .seq c19_2 c19_6
abbrev c19_8 : AC := .seq c19_1 c19_7
abbrev c19 : AC := c19_8
theorem code19 : fnCode Try.prog 19 = some (c19, [2], 9) := by kernel_rfl
/- coinage/seriation.Local -/
abbrev c23_1 : AC := .reg [⟨(some 6), .mv (.k (.c .nil)), none⟩,
  ⟨(some 7), .mv (.k (.I 0)), none⟩] false
abbrev c23_2 : AC := .reg [⟨(some 16), .mv (.t 0), none⟩,
  ⟨(some 17), .mv (.t 1), none⟩,
  ⟨(some 18), .mv (.t 2), none⟩,
  ⟨(some 19), .call 17 [(.t 16), (.t 17), (.t 18)], none⟩,
  ⟨(some 15), .mv (.t 19), none⟩,
  ⟨(some 20), .ext (.t 15) 0, none⟩,
  ⟨(some 21), .ext (.t 15) 1, none⟩,
  ⟨(some 8), .mv (.t 20), none⟩,
  ⟨(some 9), .mv (.t 21), none⟩] false
abbrev c23_3 : AC := .reg [⟨(some 22), .mv (.t 9), none⟩,
  ⟨(some 23), .bin .neq (.t 22) (.k (.I 0)), none⟩] false
abbrev c23_4 : AC := .reg [⟨(some 24), .mv (.t 9), none⟩,
  ⟨(some 6), .mv (.k (.c .nil)), none⟩,
  ⟨(some 7), .mv (.t 24), none⟩] false
abbrev c23_5 : AC := .seq c23_4 .ret
abbrev c23_6 : AC := .cond (.t 23) c23_5 .skip
abbrev c23_7 : AC := .seq c23_3 c23_6
abbrev c23_8 : AC := .reg [⟨(some 25), .mv (.t 2), none⟩,
  ⟨(some 26), .call 37 [(.t 25)], none⟩,
  ⟨(some 10), .mv (.t 26), none⟩] false
abbrev c23_9 : AC := .reg [⟨(some 11), .mv (.k (.B true)), none⟩] false
abbrev c23_10 : AC := .reg [⟨(some 27), .mv (.t 11), none⟩] false
abbrev c23_11 : AC := .cond (.t 27) .skip (.exit 0)
abbrev c23_12 : AC := .seq c23_10 c23_11
abbrev c23_13 : AC := .reg [⟨(some 11), .mv (.k (.B false)), none⟩] false
abbrev c23_14 : AC := .reg [⟨(some 12), .mv (.k (.I 1)), none⟩] false
abbrev c23_15 : AC := .reg [⟨(some 28), .mv (.t 12), none⟩,
  ⟨(some 29), .mv (.t 0), none⟩,
  ⟨(some 30), .bin .lss (.t 28) (.t 29), none⟩,
  ⟨(some 31), .mv (.t 30), none⟩,
  ⟨(some 32), .mv (.t 11), (some (31, true))⟩,
  ⟨(some 33), .not (.t 32), (some (31, true))⟩,
  ⟨(some 34), .pick (.t 31) (.t 33) (.k (.B false)), none⟩] false
abbrev c23_16 : AC := .cond (.t 34) .skip (.exit 2)
abbrev c23_17 : AC := .seq c23_15 c23_16
abbrev c23_18 : AC := .regX (.first ⟨(some 37), .mv (.t 10), none⟩
  (.first ⟨(some 38), .mv (.t 12), none⟩
  (.first ⟨(some 39), .bin .sub (.t 38) (.k (.I 1)), none⟩
  (.first ⟨(some 40), .mv (.t 10), none⟩
  (.first ⟨(some 41), .mv (.t 12), none⟩
  (.first ⟨(some 42), .mv (.t 10), none⟩
  (.first ⟨(some 43), .mv (.t 12), none⟩
  (.first ⟨(some 44), .iad 1 (.t 42) (.t 43), none⟩
  (.first ⟨(some 46), .mv (.t 10), none⟩
  (.first ⟨(some 47), .mv (.t 12), none⟩
  (.first ⟨(some 48), .bin .sub (.t 47) (.k (.I 1)), none⟩
  (.first ⟨(some 49), .iad 1 (.t 46) (.t 48), none⟩
  (.fork ⟨(some 45), .ld none (.t 44), none⟩
  (.fork ⟨(some 50), .ld none (.t 49), none⟩
  (.first ⟨(some 51), .iad 1 (.t 37) (.t 39), none⟩
  (.fork ⟨none, .st none (.t 51) (.t 45), none⟩
  (.first ⟨(some 52), .iad 1 (.t 40) (.t 41), none⟩
  (.fork ⟨none, .st none (.t 52) (.t 50), none⟩
  .done
  .nope))
  .nope))
  .nope)
  (.fork ⟨(some 50), .ld none (.t 49), none⟩
  (.fork ⟨(some 45), .ld none (.t 44), none⟩
  (.first ⟨(some 51), .iad 1 (.t 37) (.t 39), none⟩
  (.fork ⟨none, .st none (.t 51) (.t 45), none⟩
  (.first ⟨(some 52), .iad 1 (.t 40) (.t 41), none⟩
  (.fork ⟨none, .st none (.t 52) (.t 50), none⟩
  .done
  .nope))
  .nope))
  .nope)
  .nope))))))))))))))
abbrev c23_19 : AC := .reg [⟨(some 54), .mv (.t 0), none⟩,
  ⟨(some 55), .mv (.t 1), none⟩,
  ⟨(some 56), .mv (.t 10), none⟩,
  ⟨(some 57), .call 17 [(.t 54), (.t 55), (.t 56)], none⟩,
  ⟨(some 53), .mv (.t 57), none⟩,
  ⟨(some 58), .ext (.t 53) 0, none⟩,
  ⟨(some 59), .ext (.t 53) 1, none⟩,
  ⟨(some 13), .mv (.t 58), none⟩,
  ⟨(some 14), .mv (.t 59), none⟩] false
abbrev c23_20 : AC := .reg [⟨(some 60), .mv (.t 13), none⟩,
  ⟨(some 61), .mv (.t 8), none⟩,
  ⟨(some 62), .bin .lss (.t 60) (.t 61), none⟩] false
abbrev c23_21 : AC := .reg [⟨(some 63), .mv (.t 13), none⟩,
  ⟨(some 8), .mv (.t 63), none⟩,
  ⟨(some 11), .mv (.k (.B true)), none⟩] false
abbrev c23_22 : AC := .regX (.first ⟨(some 64), .mv (.t 10), none⟩
  (.first ⟨(some 65), .mv (.t 12), none⟩
  (.first ⟨(some 66), .bin .sub (.t 65) (.k (.I 1)), none⟩
  (.first ⟨(some 67), .mv (.t 10), none⟩
  (.first ⟨(some 68), .mv (.t 12), none⟩
  (.first ⟨(some 69), .mv (.t 10), none⟩
  (.first ⟨(some 70), .mv (.t 12), none⟩
  (.first ⟨(some 71), .iad 1 (.t 69) (.t 70), none⟩
  (.first ⟨(some 73), .mv (.t 10), none⟩
  (.first ⟨(some 74), .mv (.t 12), none⟩
  (.first ⟨(some 75), .bin .sub (.t 74) (.k (.I 1)), none⟩
  (.first ⟨(some 76), .iad 1 (.t 73) (.t 75), none⟩
  (.fork ⟨(some 72), .ld none (.t 71), none⟩
  (.fork ⟨(some 77), .ld none (.t 76), none⟩
  (.first ⟨(some 78), .iad 1 (.t 64) (.t 66), none⟩
  (.fork ⟨none, .st none (.t 78) (.t 72), none⟩
  (.first ⟨(some 79), .iad 1 (.t 67) (.t 68), none⟩
  (.fork ⟨none, .st none (.t 79) (.t 77), none⟩
  .done
  .nope))
  .nope))
  .nope)
  (.fork ⟨(some 77), .ld none (.t 76), none⟩
  (.fork ⟨(some 72), .ld none (.t 71), none⟩
  (.first ⟨(some 78), .iad 1 (.t 64) (.t 66), none⟩
  (.fork ⟨none, .st none (.t 78) (.t 72), none⟩
  (.first ⟨(some 79), .iad 1 (.t 67) (.t 68), none⟩
  (.fork ⟨none, .st none (.t 79) (.t 77), none⟩
  .done
  .nope))
  .nope))
  .nope)
  .nope))))))))))))))
abbrev c23_23 : AC := .cond (.t 62) c23_21 c23_22
abbrev c23_24 : AC := .seq c23_20 c23_23
abbrev c23_25 : AC := .seq c23_19 c23_24
abbrev c23_26 : AC := .seq c23_18 c23_25
abbrev c23_27 : AC := .block 3 c23_26
abbrev c23_28 : AC := .reg [⟨(some 35), .mv (.t 12), none⟩,
  ⟨(some 36), .bin .add (.t 35) (.k (.I 1)), none⟩,
  ⟨(some 12), .mv (.t 36), none⟩] false
abbrev c23_29 : AC := .seq c23_27 c23_28
abbrev c23_30 : AC := .seq c23_17 c23_29
abbrev c23_31 : AC := .loop c23_30
abbrev c23_32 : AC := .block 2 c23_31
abbrev c23_33 : AC := .seq c23_14 c23_32
abbrev c23_34 : AC := .seq c23_13 c23_33
abbrev c23_35 : AC := .block 1 c23_34
abbrev c23_36 : AC := .seq c23_12 c23_35
abbrev c23_37 : AC := .loop c23_36
abbrev c23_38 : AC := .block 0 c23_37
abbrev c23_39 : AC := .seq c23_9 c23_38
abbrev c23_40 : AC := .reg [⟨(some 80), .mv (.t 10), none⟩,
  ⟨(some 6), .mv (.t 80), none⟩,
  ⟨(some 7), .mv (.k (.I 0)), none⟩] false
abbrev c23_41 : AC := .seq c23_40 .ret
abbrev c23_42 : AC := .seq c23_39 c23_41
abbrev c23_43 : AC := .seq c23_8 c23_42
abbrev c23_44 : AC := .seq c23_7 c23_43
abbrev c23_45 : AC := .seq c23_2 c23_44
abbrev c23_46 : AC := .seq c23_1 c23_45
abbrev c23 : AC := c23_46
theorem code23 : fnCode Try.prog 23 = some (c23, [6, 7], 81) := by kernel_rfl
/- coinage/coinageref30.Local -/
abbrev c24_1 : AC := .reg [⟨(some 6), .mv (.k (.c .nil)), none⟩,
  ⟨(some 7), .mv (.k (.I 0)), none⟩] false
abbrev c24_2 : AC := .reg [⟨(some 11), .mv (.t 0), none⟩,
  ⟨(some 12), .mv (.t 1), none⟩,
  ⟨(some 13), .call 21 [(.t 11), (.t 12)], none⟩,
  ⟨(some 14), .not (.t 13), none⟩] false
abbrev c24_3 : AC := .reg [⟨(some 6), .mv (.k (.c .nil)), none⟩,
  ⟨(some 7), .mv (.k (.I 1)), none⟩] false
abbrev c24_4 : AC := .seq c24_3 .ret
abbrev c24_5 : AC := .cond (.t 14) c24_4 .skip
abbrev c24_6 : AC := .seq c24_2 c24_5
abbrev c24_7 : AC := .reg [⟨(some 15), .mv (.t 2), none⟩,
  ⟨(some 16), .mv (.t 0), none⟩,
  ⟨(some 17), .call 39 [(.t 15), (.t 16)], none⟩,
  ⟨(some 18), .not (.t 17), none⟩] false
abbrev c24_8 : AC := .reg [⟨(some 6), .mv (.k (.c .nil)), none⟩,
  ⟨(some 7), .mv (.k (.I 2)), none⟩] false
abbrev c24_9 : AC := .seq c24_8 .ret
abbrev c24_10 : AC := .cond (.t 18) c24_9 .skip
abbrev c24_11 : AC := .seq c24_7 c24_10
abbrev c24_12 : AC := .reg [⟨(some 19), .bslice 3 1 [], none⟩,
  ⟨(some 20), .mv (.t 2), none⟩,
  ⟨(some 21), .app 3 1 8 (.t 19) (.t 20), none⟩,
  ⟨(some 8), .mv (.t 21), none⟩] false
abbrev c24_13 : AC := .reg [⟨(some 9), .mv (.k (.I 0)), none⟩] false
abbrev c24_14 : AC := .reg [⟨(some 22), .mv (.t 9), none⟩,
  ⟨(some 23), .bin .add (.t 22) (.k (.I 1)), none⟩,
  ⟨(some 24), .mv (.t 0), none⟩,
  ⟨(some 25), .bin .lss (.t 23) (.t 24), none⟩] false
abbrev c24_15 : AC := .cond (.t 25) .skip (.exit 0)
abbrev c24_16 : AC := .seq c24_14 c24_15
abbrev c24_17 : AC := .reg [⟨(some 28), .mv (.t 8), none⟩,
  ⟨(some 29), .mv (.t 9), none⟩,
  ⟨(some 30), .call 40 [(.t 28), (.t 29)], none⟩,
  ⟨(some 10), .mv (.t 30), none⟩] false
abbrev c24_18 : AC := .reg [⟨(some 31), .mv (.t 1), none⟩,
  ⟨(some 32), .mv (.t 10), none⟩,
  ⟨(some 33), .call 33 [(.t 31), (.t 32)], none⟩,
  ⟨(some 34), .mv (.t 1), none⟩,
  ⟨(some 35), .mv (.t 8), none⟩,
  ⟨(some 36), .call 33 [(.t 34), (.t 35)], none⟩,
  ⟨(some 37), .bin .lss (.t 33) (.t 36), none⟩] false
abbrev c24_19 : AC := .reg [⟨(some 38), .mv (.t 10), none⟩,
  ⟨(some 8), .mv (.t 38), none⟩] false
abbrev c24_20 : AC := .reg [⟨(some 9), .mv (.k (.I (-1))), none⟩] false
abbrev c24_21 : AC := .seq c24_19 c24_20
abbrev c24_22 : AC := .cond (.t 37) c24_21 .skip
abbrev c24_23 : AC := .seq c24_18 c24_22
abbrev c24_24 : AC := .seq c24_17 c24_23
abbrev c24_25 : AC := .block 1 c24_24
abbrev c24_26 : AC := .reg [⟨(some 26), .mv (.t 9), none⟩,
  ⟨(some 27), .bin .add (.t 26) (.k (.I 1)), none⟩,
  ⟨(some 9), .mv (.t 27), none⟩] false
abbrev c24_27 : AC := .seq c24_25 c24_26
abbrev c24_28 : AC := .seq c24_16 c24_27
abbrev c24_29 : AC := .loop c24_28
abbrev c24_30 : AC := .block 0 c24_29
abbrev c24_31 : AC := .seq c24_13 c24_30
abbrev c24_32 : AC := .reg [⟨(some 39), .mv (.t 8), none⟩,
  ⟨(some 6), .mv (.t 39), none⟩,
  ⟨(some 7), .mv (.k (.I 0)), none⟩] false
abbrev c24_33 : AC := .seq c24_32 .ret
abbrev c24_34 : AC := .seq c24_31 c24_33
abbrev c24_35 : AC := .seq c24_12 c24_34
abbrev c24_36 : AC := .seq c24_11 c24_35
abbrev c24_37 : AC := .seq c24_6 c24_36
abbrev c24_38 : AC := .seq c24_1 c24_37
abbrev c24 : AC := c24_38
theorem code24 : fnCode Try.prog 24 = some (c24, [6, 7], 40) := by kernel_rfl
/- coinage/coinageref30.Adjacent -/
abbrev c25_1 : AC := .reg [⟨(some 6), .mv (.k (.c .nil)), none⟩,
  ⟨(some 7), .mv (.k (.I 0)), none⟩] false
abbrev c25_2 : AC := .reg [⟨(some 12), .mv (.t 0), none⟩,
  ⟨(some 13), .mv (.t 1), none⟩,
  ⟨(some 14), .call 21 [(.t 12), (.t 13)], none⟩,
  ⟨(some 15), .not (.t 14), none⟩] false
abbrev c25_3 : AC := .reg [⟨(some 6), .mv (.k (.c .nil)), none⟩,
  ⟨(some 7), .mv (.k (.I 1)), none⟩] false
abbrev c25_4 : AC := .seq c25_3 .ret
abbrev c25_5 : AC := .cond (.t 15) c25_4 .skip
abbrev c25_6 : AC := .seq c25_2 c25_5
abbrev c25_7 : AC := .reg [⟨(some 16), .mv (.t 2), none⟩,
  ⟨(some 17), .mv (.t 0), none⟩,
  ⟨(some 18), .call 39 [(.t 16), (.t 17)], none⟩,
  ⟨(some 19), .not (.t 18), none⟩] false
abbrev c25_8 : AC := .reg [⟨(some 6), .mv (.k (.c .nil)), none⟩,
  ⟨(some 7), .mv (.k (.I 2)), none⟩] false
abbrev c25_9 : AC := .seq c25_8 .ret
abbrev c25_10 : AC := .cond (.t 19) c25_9 .skip
abbrev c25_11 : AC := .seq c25_7 c25_10
abbrev c25_12 : AC := .reg [⟨(some 8), .mv (.k (.c .nil)), none⟩] false
abbrev c25_13 : AC := .reg [⟨(some 9), .mv (.k (.I 0)), none⟩] false
abbrev c25_14 : AC := .reg [⟨(some 20), .mv (.t 9), none⟩,
  ⟨(some 21), .bin .add (.t 20) (.k (.I 1)), none⟩,
  ⟨(some 22), .mv (.t 0), none⟩,
  ⟨(some 23), .bin .lss (.t 21) (.t 22), none⟩] false
abbrev c25_15 : AC := .cond (.t 23) .skip (.exit 0)
abbrev c25_16 : AC := .seq c25_14 c25_15
abbrev c25_17 : AC := .reg [⟨(some 10), .mv (.k (.I 0)), none⟩] false
abbrev c25_18 : AC := .reg [⟨(some 11), .mv (.k (.I 0)), none⟩] false
abbrev c25_19 : AC := .reg [⟨(some 26), .mv (.t 11), none⟩,
  ⟨(some 27), .mv (.t 1), none⟩,
  ⟨(some 28), .len (.t 27), none⟩,
  ⟨(some 29), .bin .lss (.t 26) (.t 28), none⟩] false
abbrev c25_20 : AC := .cond (.t 29) .skip (.exit 2)
abbrev c25_21 : AC := .seq c25_19 c25_20
abbrev c25_22 : AC := .regD [(⟨(some 32), .mv (.t 1), none⟩, [1]),
  (⟨(some 33), .mv (.t 11), none⟩, [11]),
  (⟨(some 34), .iad 1 (.t 32) (.t 33), none⟩, [32, 33]),
  (⟨(some 35), .ld none (.t 34), none⟩, [34]),
  (⟨(some 36), .mv (.t 2), none⟩, [2]),
  (⟨(some 37), .mv (.t 9), none⟩, [9]),
  (⟨(some 38), .iad 1 (.t 36) (.t 37), none⟩, [36, 37]),
  (⟨(some 39), .ld none (.t 38), none⟩, [38]),
  (⟨(some 40), .call 20 [(.t 35), (.t 39)], none⟩, [35, 39]),
  (⟨(some 41), .mv (.t 1), none⟩, [1]),
  (⟨(some 42), .mv (.t 11), none⟩, [11]),
  (⟨(some 43), .iad 1 (.t 41) (.t 42), none⟩, [41, 42]),
  (⟨(some 44), .ld none (.t 43), none⟩, [43]),
  (⟨(some 45), .mv (.t 2), none⟩, [2]),
  (⟨(some 46), .mv (.t 9), none⟩, [9]),
  (⟨(some 47), .bin .add (.t 46) (.k (.I 1)), none⟩, [46]),
  (⟨(some 48), .iad 1 (.t 45) (.t 47), none⟩, [45, 47]),
  (⟨(some 49), .ld none (.t 48), none⟩, [48]),
  (⟨(some 50), .call 20 [(.t 44), (.t 49)], none⟩, [44, 49]),
  (⟨(some 51), .beq true (.t 40) (.t 50), none⟩, [40, 50])]
abbrev c25_23 : AC := .reg [⟨(some 52), .mv (.t 10), none⟩,
  ⟨(some 53), .bin .add (.t 52) (.k (.I 1)), none⟩,
  ⟨(some 10), .mv (.t 53), none⟩] false
abbrev c25_24 : AC := .cond (.t 51) c25_23 .skip
abbrev c25_25 : AC := .seq c25_22 c25_24
abbrev c25_26 : AC := .block 3 c25_25
abbrev c25_27 : AC := .reg [⟨(some 30), .mv (.t 11), none⟩,
  ⟨(some 31), .bin .add (.t 30) (.k (.I 1)), none⟩,
  ⟨(some 11), .mv (.t 31), none⟩] false
abbrev c25_28 : AC := .seq c25_26 c25_27
abbrev c25_29 : AC := .seq c25_21 c25_28
abbrev c25_30 : AC := .loop c25_29
abbrev c25_31 : AC := .block 2 c25_30
abbrev c25_32 : AC := .seq c25_18 c25_31
abbrev c25_33 : AC := .reg [⟨(some 54), .mv (.t 8), none⟩,
  ⟨(some 55), .mv (.t 10), none⟩,
  ⟨(some 56), .bslice 3 1 [(.t 55)], none⟩,
  ⟨(some 57), .app 3 1 8 (.t 54) (.t 56), none⟩,
  ⟨(some 8), .mv (.t 57), none⟩] false
abbrev c25_34 : AC := .seq c25_32 c25_33
abbrev c25_35 : AC := .seq c25_17 c25_34
abbrev c25_36 : AC := .block 1 c25_35
abbrev c25_37 : AC := .reg [⟨(some 24), .mv (.t 9), none⟩,
  ⟨(some 25), .bin .add (.t 24) (.k (.I 1)), none⟩,
  ⟨(some 9), .mv (.t 25), none⟩] false
abbrev c25_38 : AC := .seq c25_36 c25_37
abbrev c25_39 : AC := .seq c25_16 c25_38
abbrev c25_40 : AC := .loop c25_39
abbrev c25_41 : AC := .block 0 c25_40
abbrev c25_42 : AC := .seq c25_13 c25_41
abbrev c25_43 : AC := .reg [⟨(some 58), .mv (.t 8), none⟩,
  ⟨(some 6), .mv (.t 58), none⟩,
  ⟨(some 7), .mv (.k (.I 0)), none⟩] false
abbrev c25_44 : AC := .seq c25_43 .ret
abbrev c25_45 : AC := .seq c25_42 c25_44
abbrev c25_46 : AC := .seq c25_12 c25_45
abbrev c25_47 : AC := .seq c25_11 c25_46
abbrev c25_48 : AC := .seq c25_6 c25_47
abbrev c25_49 : AC := .seq c25_1 c25_48
abbrev c25 : AC := c25_49
theorem code25 : fnCode Try.prog 25 = some (c25, [6, 7], 59) := by kernel_rfl
/- coinage/coinageref30.Cost -/
abbrev c26_1 : AC := .reg [⟨(some 6), .mv (.k (.I 0)), none⟩,
  ⟨(some 7), .mv (.k (.I 0)), none⟩] false
abbrev c26_2 : AC := .reg [⟨(some 8), .mv (.t 0), none⟩,
  ⟨(some 9), .mv (.t 1), none⟩,
  ⟨(some 10), .call 21 [(.t 8), (.t 9)], none⟩,
  ⟨(some 11), .not (.t 10), none⟩] false
abbrev c26_3 : AC := .reg [⟨(some 6), .mv (.k (.I 0)), none⟩,
  ⟨(some 7), .mv (.k (.I 1)), none⟩] false
abbrev c26_4 : AC := .seq c26_3 .ret
abbrev c26_5 : AC := .cond (.t 11) c26_4 .skip
abbrev c26_6 : AC := .seq c26_2 c26_5
abbrev c26_7 : AC := .reg [⟨(some 12), .mv (.t 2), none⟩,
  ⟨(some 13), .mv (.t 0), none⟩,
  ⟨(some 14), .call 39 [(.t 12), (.t 13)], none⟩,
  ⟨(some 15), .not (.t 14), none⟩] false
abbrev c26_8 : AC := .reg [⟨(some 6), .mv (.k (.I 0)), none⟩,
  ⟨(some 7), .mv (.k (.I 2)), none⟩] false
abbrev c26_9 : AC := .seq c26_8 .ret
abbrev c26_10 : AC := .cond (.t 15) c26_9 .skip
abbrev c26_11 : AC := .seq c26_7 c26_10
abbrev c26_12 : AC := .reg [⟨(some 16), .mv (.t 1), none⟩,
  ⟨(some 17), .mv (.t 2), none⟩,
  ⟨(some 18), .call 33 [(.t 16), (.t 17)], none⟩,
  ⟨(some 6), .mv (.t 18), none⟩,
  ⟨(some 7), .mv (.k (.I 0)), none⟩] false
abbrev c26_13 : AC := .seq c26_12 .ret
abbrev c26_14 : AC := .seq c26_11 c26_13
abbrev c26_15 : AC := .seq c26_6 c26_14
abbrev c26_16 : AC := .seq c26_1 c26_15
abbrev c26 : AC := c26_16
theorem code26 : fnCode Try.prog 26 = some (c26, [6, 7], 19) := by kernel_rfl
/- coinage/coinageref30.Turned -/
abbrev c27_1 : AC := .reg [⟨(some 2), .mv (.k (.c .nil)), none⟩] false
abbrev c27_2 : AC := .reg [⟨(some 3), .mv (.k (.c .nil)), none⟩] false
abbrev c27_3 : AC := .reg [⟨(some 5), .mv (.t 0), none⟩,
  ⟨(some 6), .len (.t 5), none⟩,
  ⟨(some 7), .bin .sub (.t 6) (.k (.I 1)), none⟩,
  ⟨(some 4), .mv (.t 7), none⟩] false
abbrev c27_4 : AC := .reg [⟨(some 8), .mv (.t 4), none⟩,
  ⟨(some 9), .bin .geq (.t 8) (.k (.I 0)), none⟩] false
abbrev c27_5 : AC := .cond (.t 9) .skip (.exit 0)
abbrev c27_6 : AC := .seq c27_4 c27_5
abbrev c27_7 : AC := .reg [⟨(some 12), .mv (.t 3), none⟩,
  ⟨(some 13), .mv (.t 0), none⟩,
  ⟨(some 14), .mv (.t 4), none⟩,
  ⟨(some 15), .iad 1 (.t 13) (.t 14), none⟩,
  ⟨(some 16), .ld none (.t 15), none⟩,
  ⟨(some 17), .bslice 3 1 [(.t 16)], none⟩,
  ⟨(some 18), .app 3 1 8 (.t 12) (.t 17), none⟩,
  ⟨(some 3), .mv (.t 18), none⟩] false
abbrev c27_8 : AC := .block 1 c27_7
abbrev c27_9 : AC := .reg [⟨(some 10), .mv (.t 4), none⟩,
  ⟨(some 11), .bin .sub (.t 10) (.k (.I 1)), none⟩,
  ⟨(some 4), .mv (.t 11), none⟩] false
abbrev c27_10 : AC := .seq c27_8 c27_9
abbrev c27_11 : AC := .seq c27_6 c27_10
abbrev c27_12 : AC := .loop c27_11
abbrev c27_13 : AC := .block 0 c27_12
abbrev c27_14 : AC := .seq c27_3 c27_13
abbrev c27_15 : AC := .reg [⟨(some 19), .mv (.t 3), none⟩,
  ⟨(some 2), .mv (.t 19), none⟩] false
abbrev c27_16 : AC := .seq c27_15 .ret
abbrev c27_17 : AC := .seq c27_14 c27_16
abbrev c27_18 : AC := .seq c27_2 c27_17
abbrev c27_19 : AC := .seq c27_1 c27_18
abbrev c27 : AC := c27_19
theorem code27 : fnCode Try.prog 27 = some (c27, [2], 20) := by kernel_rfl
/- coinage/seriation.Bound -/
abbrev c28_1 : AC := .reg [⟨(some 6), .mv (.k (.I 0)), none⟩,
  ⟨(some 7), .mv (.k (.I 0)), none⟩] false
abbrev c28_2 : AC := .reg [⟨(some 21), .mv (.t 0), none⟩,
  ⟨(some 22), .mv (.t 1), none⟩,
  ⟨(some 23), .call 31 [(.t 21), (.t 22)], none⟩,
  ⟨(some 24), .not (.t 23), none⟩] false
abbrev c28_3 : AC := .reg [⟨(some 6), .mv (.k (.I 0)), none⟩,
  ⟨(some 7), .mv (.k (.I 1)), none⟩] false
abbrev c28_4 : AC := .seq c28_3 .ret
abbrev c28_5 : AC := .cond (.t 24) c28_4 .skip
abbrev c28_6 : AC := .seq c28_2 c28_5
abbrev c28_7 : AC := .reg [⟨(some 25), .mv (.t 1), none⟩,
  ⟨(some 26), .len (.t 25), none⟩,
  ⟨(some 27), .mks 4 1 1 [(.sc (.bool false))] (.t 26) (.t 26), none⟩,
  ⟨(some 8), .mv (.t 27), none⟩] false
abbrev c28_8 : AC := .reg [⟨(some 28), .mv (.t 2), none⟩,
  ⟨(some 29), .len (.t 28), none⟩,
  ⟨(some 30), .mv (.k (.I 0)), none⟩] false
abbrev c28_9 : AC := .reg [⟨(some 31), .bin .lss (.t 30) (.t 29), none⟩] false
abbrev c28_10 : AC := .cond (.t 31) .skip (.exit 0)
abbrev c28_11 : AC := .reg [⟨(some 32), .iad 1 (.t 28) (.t 30), none⟩,
  ⟨(some 33), .ld none (.t 32), none⟩,
  ⟨(some 10), .mv (.t 33), none⟩] false
abbrev c28_12 : AC := .reg [⟨(some 34), .mv (.t 10), none⟩,
  ⟨(some 35), .len (.t 34), none⟩,
  ⟨(some 36), .mv (.k (.I 0)), none⟩] false
abbrev c28_13 : AC := .reg [⟨(some 37), .bin .lss (.t 36) (.t 35), none⟩] false
abbrev c28_14 : AC := .cond (.t 37) .skip (.exit 2)
abbrev c28_15 : AC := .reg [⟨(some 38), .mv (.t 36), none⟩,
  ⟨(some 39), .iad 1 (.t 34) (.t 36), none⟩,
  ⟨(some 40), .ld none (.t 39), none⟩,
  ⟨(some 11), .mv (.t 38), none⟩,
  ⟨(some 12), .mv (.t 40), none⟩] false
abbrev c28_16 : AC := .reg [⟨(some 41), .mv (.t 12), none⟩,
  ⟨(some 42), .bin .lss (.t 41) (.k (.I 0)), none⟩,
  ⟨(some 43), .mv (.t 42), none⟩,
  ⟨(some 44), .mv (.t 12), (some (43, false))⟩,
  ⟨(some 45), .mv (.t 1), (some (43, false))⟩,
  ⟨(some 46), .len (.t 45), (some (43, false))⟩,
  ⟨(some 47), .bin .geq (.t 44) (.t 46), (some (43, false))⟩,
  ⟨(some 48), .pick (.t 43) (.k (.B true)) (.t 47), none⟩,
  ⟨(some 49), .mv (.t 48), none⟩,
  ⟨(some 50), .mv (.t 11), (some (49, false))⟩,
  ⟨(some 51), .bin .gtr (.t 50) (.k (.I 0)), (some (49, false))⟩,
  ⟨(some 52), .mv (.t 51), (some (49, false))⟩,
  ⟨(some 53), .mv (.t 12), (some (52, true))⟩,
  ⟨(some 54), .mv (.t 10), (some (52, true))⟩,
  ⟨(some 55), .mv (.t 11), (some (52, true))⟩,
  ⟨(some 56), .bin .sub (.t 55) (.k (.I 1)), (some (52, true))⟩,
  ⟨(some 57), .iad 1 (.t 54) (.t 56), (some (52, true))⟩,
  ⟨(some 58), .ld none (.t 57), (some (52, true))⟩,
  ⟨(some 59), .bin .leq (.t 53) (.t 58), (some (52, true))⟩,
  ⟨(some 60), .pick (.t 52) (.t 59) (.k (.B false)), (some (49, false))⟩,
  ⟨(some 61), .pick (.t 49) (.k (.B true)) (.t 60), none⟩,
  ⟨(some 62), .mv (.t 61), none⟩,
  ⟨(some 63), .mv (.t 8), (some (62, false))⟩,
  ⟨(some 64), .mv (.t 12), (some (62, false))⟩,
  ⟨(some 65), .iad 1 (.t 63) (.t 64), (some (62, false))⟩,
  ⟨(some 66), .ld none (.t 65), (some (62, false))⟩,
  ⟨(some 67), .pick (.t 62) (.k (.B true)) (.t 66), none⟩] false
abbrev c28_17 : AC := .reg [⟨(some 6), .mv (.k (.I 0)), none⟩,
  ⟨(some 7), .mv (.k (.I 2)), none⟩] false
abbrev c28_18 : AC := .seq c28_17 .ret
abbrev c28_19 : AC := .cond (.t 67) c28_18 .skip
abbrev c28_20 : AC := .seq c28_16 c28_19
abbrev c28_21 : AC := .reg [⟨(some 68), .mv (.t 8), none⟩,
  ⟨(some 69), .mv (.t 12), none⟩,
  ⟨(some 70), .iad 1 (.t 68) (.t 69), none⟩,
  ⟨none, .st none (.t 70) (.k (.B true)), none⟩] false
abbrev c28_22 : AC := .seq c28_20 c28_21
abbrev c28_23 : AC := .seq c28_15 c28_22
abbrev c28_24 : AC := .block 3 c28_23
abbrev c28_25 : AC := .reg [⟨(some 71), .bin .add (.t 36) (.k (.I 1)), none⟩,
  ⟨(some 36), .mv (.t 71), none⟩] false
abbrev c28_26 : AC := .seq c28_24 c28_25
abbrev c28_27 : AC := .seq c28_14 c28_26
abbrev c28_28 : AC := .seq c28_13 c28_27
abbrev c28_29 : AC := .loop c28_28
abbrev c28_30 : AC := .block 2 c28_29
abbrev c28_31 : AC := .seq c28_12 c28_30
abbrev c28_32 : AC := .seq c28_11 c28_31
abbrev c28_33 : AC := .block 1 c28_32
abbrev c28_34 : AC := .reg [⟨(some 72), .bin .add (.t 30) (.k (.I 1)), none⟩,
  ⟨(some 30), .mv (.t 72), none⟩] false
abbrev c28_35 : AC := .seq c28_33 c28_34
abbrev c28_36 : AC := .seq c28_10 c28_35
abbrev c28_37 : AC := .seq c28_9 c28_36
abbrev c28_38 : AC := .loop c28_37
abbrev c28_39 : AC := .block 0 c28_38
abbrev c28_40 : AC := .seq c28_8 c28_39
abbrev c28_41 : AC := .reg [⟨(some 13), .mv (.k (.I 0)), none⟩] false
abbrev c28_42 : AC := .reg [⟨(some 73), .mv (.t 2), none⟩,
  ⟨(some 74), .len (.t 73), none⟩,
  ⟨(some 75), .mv (.k (.I 0)), none⟩] false
abbrev c28_43 : AC := .reg [⟨(some 76), .bin .lss (.t 75) (.t 74), none⟩] false
abbrev c28_44 : AC := .cond (.t 76) .skip (.exit 4)
abbrev c28_45 : AC := .reg [⟨(some 77), .iad 1 (.t 73) (.t 75), none⟩,
  ⟨(some 78), .ld none (.t 77), none⟩,
  ⟨(some 15), .mv (.t 78), none⟩] false
abbrev c28_46 : AC := .reg [⟨(some 16), .mv (.k (.c .nil)), none⟩] false
abbrev c28_47 : AC := .reg [⟨(some 79), .mv (.t 15), none⟩,
  ⟨(some 80), .len (.t 79), none⟩,
  ⟨(some 81), .mv (.k (.I 0)), none⟩] false
abbrev c28_48 : AC := .reg [⟨(some 82), .bin .lss (.t 81) (.t 80), none⟩] false
abbrev c28_49 : AC := .cond (.t 82) .skip (.exit 6)
abbrev c28_50 : AC := .reg [⟨(some 83), .iad 1 (.t 79) (.t 81), none⟩,
  ⟨(some 84), .ld none (.t 83), none⟩,
  ⟨(some 18), .mv (.t 84), none⟩] false
abbrev c28_51 : AC := .reg [⟨(some 85), .mv (.t 16), none⟩,
  ⟨(some 86), .mv (.t 1), none⟩,
  ⟨(some 87), .mv (.t 18), none⟩,
  ⟨(some 88), .iad 1 (.t 86) (.t 87), none⟩,
  ⟨(some 89), .ld none (.t 88), none⟩,
  ⟨(some 90), .bslice 25 1 [(.t 89)], none⟩,
  ⟨(some 91), .app 25 1 24 (.t 85) (.t 90), none⟩,
  ⟨(some 16), .mv (.t 91), none⟩] false
abbrev c28_52 : AC := .seq c28_50 c28_51
abbrev c28_53 : AC := .block 7 c28_52
abbrev c28_54 : AC := .reg [⟨(some 92), .bin .add (.t 81) (.k (.I 1)), none⟩,
  ⟨(some 81), .mv (.t 92), none⟩] false
abbrev c28_55 : AC := .seq c28_53 c28_54
abbrev c28_56 : AC := .seq c28_49 c28_55
abbrev c28_57 : AC := .seq c28_48 c28_56
abbrev c28_58 : AC := .loop c28_57
abbrev c28_59 : AC := .block 6 c28_58
abbrev c28_60 : AC := .seq c28_47 c28_59
abbrev c28_61 : AC := .reg [⟨(some 94), .mv (.t 0), none⟩,
  ⟨(some 95), .mv (.t 16), none⟩,
  ⟨(some 96), .call 32 [(.t 94), (.t 95)], none⟩,
  ⟨(some 93), .mv (.t 96), none⟩,
  ⟨(some 97), .ext (.t 93) 0, none⟩,
  ⟨(some 98), .ext (.t 93) 1, none⟩,
  ⟨(some 19), .mv (.t 97), none⟩,
  ⟨(some 20), .mv (.t 98), none⟩] false
abbrev c28_62 : AC := .reg [⟨(some 99), .mv (.t 13), none⟩,
  ⟨(some 100), .mv (.t 20), none⟩,
  ⟨(some 101), .bin .add (.t 99) (.t 100), none⟩,
  ⟨(some 13), .mv (.t 101), none⟩] false
abbrev c28_63 : AC := .seq c28_61 c28_62
abbrev c28_64 : AC := .seq c28_60 c28_63
abbrev c28_65 : AC := .seq c28_46 c28_64
abbrev c28_66 : AC := .seq c28_45 c28_65
abbrev c28_67 : AC := .block 5 c28_66
abbrev c28_68 : AC := .reg [⟨(some 102), .bin .add (.t 75) (.k (.I 1)), none⟩,
  ⟨(some 75), .mv (.t 102), none⟩] false
abbrev c28_69 : AC := .seq c28_67 c28_68
abbrev c28_70 : AC := .seq c28_44 c28_69
abbrev c28_71 : AC := .seq c28_43 c28_70
abbrev c28_72 : AC := .loop c28_71
abbrev c28_73 : AC := .block 4 c28_72
abbrev c28_74 : AC := .seq c28_42 c28_73
abbrev c28_75 : AC := .reg [⟨(some 103), .mv (.t 13), none⟩,
  ⟨(some 6), .mv (.t 103), none⟩,
  ⟨(some 7), .mv (.k (.I 0)), none⟩] false
abbrev c28_76 : AC := .seq c28_75 .ret
abbrev c28_77 : AC := .seq c28_74 c28_76
abbrev c28_78 : AC := .seq c28_41 c28_77
abbrev c28_79 : AC := .seq c28_40 c28_78
abbrev c28_80 : AC := .seq c28_7 c28_79
abbrev c28_81 : AC := .seq c28_6 c28_80
abbrev c28_82 : AC := .seq c28_1 c28_81
abbrev c28 : AC := c28_82
theorem code28 : fnCode Try.prog 28 = some (c28, [6, 7], 104) := by kernel_rfl
/- coinage/coinageref30.Bound -/
abbrev c29_1 : AC := .reg [⟨(some 6), .mv (.k (.I 0)), none⟩,
  ⟨(some 7), .mv (.k (.I 0)), none⟩] false
abbrev c29_2 : AC := .reg [⟨(some 18), .mv (.t 0), none⟩,
  ⟨(some 19), .mv (.t 1), none⟩,
  ⟨(some 20), .call 21 [(.t 18), (.t 19)], none⟩,
  ⟨(some 21), .not (.t 20), none⟩] false
abbrev c29_3 : AC := .reg [⟨(some 6), .mv (.k (.I 0)), none⟩,
  ⟨(some 7), .mv (.k (.I 1)), none⟩] false
abbrev c29_4 : AC := .seq c29_3 .ret
abbrev c29_5 : AC := .cond (.t 21) c29_4 .skip
abbrev c29_6 : AC := .seq c29_2 c29_5
abbrev c29_7 : AC := .reg [⟨(some 22), .mv (.t 1), none⟩,
  ⟨(some 23), .len (.t 22), none⟩,
  ⟨(some 24), .mks 4 1 1 [(.sc (.bool false))] (.t 23) (.t 23), none⟩,
  ⟨(some 8), .mv (.t 24), none⟩] false
abbrev c29_8 : AC := .reg [⟨(some 9), .mv (.k (.I 0)), none⟩] false
abbrev c29_9 : AC := .reg [⟨(some 25), .mv (.t 9), none⟩,
  ⟨(some 26), .mv (.t 2), none⟩,
  ⟨(some 27), .len (.t 26), none⟩,
  ⟨(some 28), .bin .lss (.t 25) (.t 27), none⟩] false
abbrev c29_10 : AC := .cond (.t 28) .skip (.exit 0)
abbrev c29_11 : AC := .seq c29_9 c29_10
abbrev c29_12 : AC := .reg [⟨(some 31), .mv (.t 2), none⟩,
  ⟨(some 32), .mv (.t 9), none⟩,
  ⟨(some 33), .iad 1 (.t 31) (.t 32), none⟩,
  ⟨(some 34), .ld none (.t 33), none⟩,
  ⟨(some 35), .mv (.t 1), none⟩,
  ⟨(some 36), .len (.t 35), none⟩,
  ⟨(some 37), .bin .sub (.t 36) (.k (.I 1)), none⟩,
  ⟨(some 38), .call 22 [(.t 34), (.k (.I 0)), (.t 37)], none⟩,
  ⟨(some 39), .not (.t 38), none⟩] false
abbrev c29_13 : AC := .reg [⟨(some 6), .mv (.k (.I 0)), none⟩,
  ⟨(some 7), .mv (.k (.I 2)), none⟩] false
abbrev c29_14 : AC := .seq c29_13 .ret
abbrev c29_15 : AC := .cond (.t 39) c29_14 .skip
abbrev c29_16 : AC := .seq c29_12 c29_15
abbrev c29_17 : AC := .reg [⟨(some 10), .mv (.k (.I 0)), none⟩] false
abbrev c29_18 : AC := .reg [⟨(some 40), .mv (.t 10), none⟩,
  ⟨(some 41), .mv (.t 2), none⟩,
  ⟨(some 42), .mv (.t 9), none⟩,
  ⟨(some 43), .iad 1 (.t 41) (.t 42), none⟩,
  ⟨(some 44), .ld none (.t 43), none⟩,
  ⟨(some 45), .len (.t 44), none⟩,
  ⟨(some 46), .bin .lss (.t 40) (.t 45), none⟩] false
abbrev c29_19 : AC := .cond (.t 46) .skip (.exit 2)
abbrev c29_20 : AC := .seq c29_18 c29_19
abbrev c29_21 : AC := .reg [⟨(some 49), .mv (.t 8), none⟩,
  ⟨(some 50), .mv (.t 2), none⟩,
  ⟨(some 51), .mv (.t 9), none⟩,
  ⟨(some 52), .iad 1 (.t 50) (.t 51), none⟩,
  ⟨(some 53), .ld none (.t 52), none⟩,
  ⟨(some 54), .mv (.t 10), none⟩,
  ⟨(some 55), .iad 1 (.t 53) (.t 54), none⟩,
  ⟨(some 56), .ld none (.t 55), none⟩,
  ⟨(some 57), .iad 1 (.t 49) (.t 56), none⟩,
  ⟨(some 58), .ld none (.t 57), none⟩] false
abbrev c29_22 : AC := .reg [⟨(some 6), .mv (.k (.I 0)), none⟩,
  ⟨(some 7), .mv (.k (.I 2)), none⟩] false
abbrev c29_23 : AC := .seq c29_22 .ret
abbrev c29_24 : AC := .cond (.t 58) c29_23 .skip
abbrev c29_25 : AC := .seq c29_21 c29_24
abbrev c29_26 : AC := .reg [⟨(some 59), .mv (.t 8), none⟩,
  ⟨(some 60), .mv (.t 2), none⟩,
  ⟨(some 61), .mv (.t 9), none⟩,
  ⟨(some 62), .iad 1 (.t 60) (.t 61), none⟩,
  ⟨(some 63), .ld none (.t 62), none⟩,
  ⟨(some 64), .mv (.t 10), none⟩,
  ⟨(some 65), .iad 1 (.t 63) (.t 64), none⟩,
  ⟨(some 66), .ld none (.t 65), none⟩,
  ⟨(some 67), .iad 1 (.t 59) (.t 66), none⟩,
  ⟨none, .st none (.t 67) (.k (.B true)), none⟩] false
abbrev c29_27 : AC := .seq c29_25 c29_26
abbrev c29_28 : AC := .block 3 c29_27
abbrev c29_29 : AC := .reg [⟨(some 47), .mv (.t 10), none⟩,
  ⟨(some 48), .bin .add (.t 47) (.k (.I 1)), none⟩,
  ⟨(some 10), .mv (.t 48), none⟩] false
abbrev c29_30 : AC := .seq c29_28 c29_29
abbrev c29_31 : AC := .seq c29_20 c29_30
abbrev c29_32 : AC := .loop c29_31
abbrev c29_33 : AC := .block 2 c29_32
abbrev c29_34 : AC := .seq c29_17 c29_33
abbrev c29_35 : AC := .seq c29_16 c29_34
abbrev c29_36 : AC := .block 1 c29_35
abbrev c29_37 : AC := .reg [⟨(some 29), .mv (.t 9), none⟩,
  ⟨(some 30), .bin .add (.t 29) (.k (.I 1)), none⟩,
  ⟨(some 9), .mv (.t 30), none⟩] false
abbrev c29_38 : AC := .seq c29_36 c29_37
abbrev c29_39 : AC := .seq c29_11 c29_38
abbrev c29_40 : AC := .loop c29_39
abbrev c29_41 : AC := .block 0 c29_40
abbrev c29_42 : AC := .seq c29_8 c29_41
abbrev c29_43 : AC := .reg [⟨(some 11), .mv (.k (.I 0)), none⟩] false
abbrev c29_44 : AC := .reg [⟨(some 12), .mv (.k (.I 0)), none⟩] false
abbrev c29_45 : AC := .reg [⟨(some 68), .mv (.t 12), none⟩,
  ⟨(some 69), .mv (.t 2), none⟩,
  ⟨(some 70), .len (.t 69), none⟩,
  ⟨(some 71), .bin .lss (.t 68) (.t 70), none⟩] false
abbrev c29_46 : AC := .cond (.t 71) .skip (.exit 4)
abbrev c29_47 : AC := .seq c29_45 c29_46
abbrev c29_48 : AC := .reg [⟨(some 13), .mv (.k (.c .nil)), none⟩] false
abbrev c29_49 : AC := .reg [⟨(some 14), .mv (.k (.I 0)), none⟩] false
abbrev c29_50 : AC := .reg [⟨(some 74), .mv (.t 14), none⟩,
  ⟨(some 75), .mv (.t 2), none⟩,
  ⟨(some 76), .mv (.t 12), none⟩,
  ⟨(some 77), .iad 1 (.t 75) (.t 76), none⟩,
  ⟨(some 78), .ld none (.t 77), none⟩,
  ⟨(some 79), .len (.t 78), none⟩,
  ⟨(some 80), .bin .lss (.t 74) (.t 79), none⟩] false
abbrev c29_51 : AC := .cond (.t 80) .skip (.exit 6)
abbrev c29_52 : AC := .seq c29_50 c29_51
abbrev c29_53 : AC := .reg [⟨(some 83), .mv (.t 13), none⟩,
  ⟨(some 84), .mv (.t 1), none⟩,
  ⟨(some 85), .mv (.t 2), none⟩,
  ⟨(some 86), .mv (.t 12), none⟩,
  ⟨(some 87), .iad 1 (.t 85) (.t 86), none⟩,
  ⟨(some 88), .ld none (.t 87), none⟩,
  ⟨(some 89), .mv (.t 14), none⟩,
  ⟨(some 90), .iad 1 (.t 88) (.t 89), none⟩,
  ⟨(some 91), .ld none (.t 90), none⟩,
  ⟨(some 92), .iad 1 (.t 84) (.t 91), none⟩,
  ⟨(some 93), .ld none (.t 92), none⟩,
  ⟨(some 94), .bslice 25 1 [(.t 93)], none⟩,
  ⟨(some 95), .app 25 1 24 (.t 83) (.t 94), none⟩,
  ⟨(some 13), .mv (.t 95), none⟩] false
abbrev c29_54 : AC := .block 7 c29_53
abbrev c29_55 : AC := .reg [⟨(some 81), .mv (.t 14), none⟩,
  ⟨(some 82), .bin .add (.t 81) (.k (.I 1)), none⟩,
  ⟨(some 14), .mv (.t 82), none⟩] false
abbrev c29_56 : AC := .seq c29_54 c29_55
abbrev c29_57 : AC := .seq c29_52 c29_56
abbrev c29_58 : AC := .loop c29_57
abbrev c29_59 : AC := .block 6 c29_58
abbrev c29_60 : AC := .seq c29_49 c29_59
abbrev c29_61 : AC := .reg [⟨(some 96), .mv (.t 13), none⟩,
  ⟨(some 97), .len (.t 96), none⟩,
  ⟨(some 98), .bin .gtr (.t 97) (.k (.I 0)), none⟩] false
abbrev c29_62 : AC := .reg [⟨(some 100), .mv (.t 0), none⟩,
  ⟨(some 101), .mv (.t 13), none⟩,
  ⟨(some 102), .call 14 [(.t 100), (.t 101)], none⟩,
  ⟨(some 99), .mv (.t 102), none⟩,
  ⟨(some 103), .ext (.t 99) 0, none⟩,
  ⟨(some 104), .ext (.t 99) 1, none⟩,
  ⟨(some 105), .ext (.t 99) 2, none⟩,
  ⟨(some 15), .mv (.t 103), none⟩,
  ⟨(some 16), .mv (.t 104), none⟩,
  ⟨(some 17), .mv (.t 105), none⟩] false
abbrev c29_63 : AC := .reg [⟨(some 106), .mv (.t 11), none⟩,
  ⟨(some 107), .mv (.t 16), none⟩,
  ⟨(some 108), .bin .add (.t 106) (.t 107), none⟩,
  ⟨(some 11), .mv (.t 108), none⟩] false
abbrev c29_64 : AC := .seq c29_62 c29_63
abbrev c29_65 : AC := .cond (.t 98) c29_64 .skip
abbrev c29_66 : AC := .seq c29_61 c29_65
abbrev c29_67 : AC := .seq c29_60 c29_66
abbrev c29_68 : AC := .seq c29_48 c29_67
abbrev c29_69 : AC := .block 5 c29_68
abbrev c29_70 : AC := .reg [⟨(some 72), .mv (.t 12), none⟩,
  ⟨(some 73), .bin .add (.t 72) (.k (.I 1)), none⟩,
  ⟨(some 12), .mv (.t 73), none⟩] false
abbrev c29_71 : AC := .seq c29_69 c29_70
abbrev c29_72 : AC := .seq c29_47 c29_71
abbrev c29_73 : AC := .loop c29_72
abbrev c29_74 : AC := .block 4 c29_73
abbrev c29_75 : AC := .seq c29_44 c29_74
abbrev c29_76 : AC := .reg [⟨(some 109), .mv (.t 11), none⟩,
  ⟨(some 6), .mv (.t 109), none⟩,
  ⟨(some 7), .mv (.k (.I 0)), none⟩] false
abbrev c29_77 : AC := .seq c29_76 .ret
abbrev c29_78 : AC := .seq c29_75 c29_77
abbrev c29_79 : AC := .seq c29_43 c29_78
abbrev c29_80 : AC := .seq c29_42 c29_79
abbrev c29_81 : AC := .seq c29_7 c29_80
abbrev c29_82 : AC := .seq c29_6 c29_81
abbrev c29_83 : AC := .seq c29_1 c29_82
abbrev c29 : AC := c29_83
theorem code29 : fnCode Try.prog 29 = some (c29, [6, 7], 110) := by kernel_rfl
/- coinage/seriation.least -/
abbrev c32_1 : AC := .reg [⟨(some 4), .mv (.k (.c .nil)), none⟩,
  ⟨(some 5), .mv (.k (.I 0)), none⟩] false
abbrev c32_2 : AC := .reg [⟨(some 7), .mv (.t 0), none⟩,
  ⟨(some 8), .mv (.t 1), none⟩,
  ⟨(some 9), .call 35 [(.t 7), (.t 8)], none⟩,
  ⟨(some 6), .mv (.t 9), none⟩] false
abbrev c32_3 : AC := .reg [⟨(some 10), .mv (.t 6), none⟩,
  ⟨(some 11), .mv (.t 1), none⟩,
  ⟨(some 12), .len (.t 11), none⟩,
  ⟨(some 13), .mks 3 1 8 [(.sc (.int .i64 0))] (.t 12) (.t 12), none⟩,
  ⟨(some 14), .call 42 [(.t 10), (.t 13), (.k (.I 0))], none⟩] false
abbrev c32_4 : AC := .regD [(⟨(some 15), .mv (.t 6), none⟩, [6]),
  (⟨(some 16), .nilck (.t 15), none⟩, [15]),
  (⟨(some 17), .fad 4 (.t 16), none⟩, [16]),
  (⟨(some 18), .ld none (.t 17), none⟩, [17]),
  (⟨(some 19), .mv (.t 6), none⟩, [6]),
  (⟨(some 20), .nilck (.t 19), none⟩, [19]),
  (⟨(some 21), .fad 5 (.t 20), none⟩, [20]),
  (⟨(some 22), .ld none (.t 21), none⟩, [21]),
  (⟨(some 4), .mv (.t 18), none⟩, [18]),
  (⟨(some 5), .mv (.t 22), none⟩, [22])]
abbrev c32_5 : AC := .seq c32_4 .ret
abbrev c32_6 : AC := .seq c32_3 c32_5
abbrev c32_7 : AC := .seq c32_2 c32_6
abbrev c32_8 : AC := .seq c32_1 c32_7
abbrev c32 : AC := c32_8
theorem code32 : fnCode Try.prog 32 = some (c32, [4, 5], 23) := by kernel_rfl
/- coinage/coinageref30.gaps -/
abbrev c33_1 : AC := .reg [⟨(some 4), .mv (.k (.I 0)), none⟩] false
abbrev c33_2 : AC := .reg [⟨(some 5), .mv (.k (.I 0)), none⟩] false
abbrev c33_3 : AC := .reg [⟨(some 6), .mv (.k (.I 0)), none⟩] false
abbrev c33_4 : AC := .reg [⟨(some 11), .mv (.t 6), none⟩,
  ⟨(some 12), .mv (.t 0), none⟩,
  ⟨(some 13), .len (.t 12), none⟩,
  ⟨(some 14), .bin .lss (.t 11) (.t 13), none⟩] false
abbrev c33_5 : AC := .cond (.t 14) .skip (.exit 0)
abbrev c33_6 : AC := .seq c33_4 c33_5
abbrev c33_7 : AC := .reg [⟨(some 7), .mv (.k (.I 0)), none⟩,
  ⟨(some 8), .mv (.k (.B false)), none⟩] false
abbrev c33_8 : AC := .reg [⟨(some 9), .mv (.k (.I 0)), none⟩] false
abbrev c33_9 : AC := .reg [⟨(some 17), .mv (.t 9), none⟩,
  ⟨(some 18), .mv (.t 1), none⟩,
  ⟨(some 19), .len (.t 18), none⟩,
  ⟨(some 20), .bin .lss (.t 17) (.t 19), none⟩] false
abbrev c33_10 : AC := .cond (.t 20) .skip (.exit 2)
abbrev c33_11 : AC := .seq c33_9 c33_10
abbrev c33_12 : AC := .regD [(⟨(some 23), .mv (.t 0), none⟩, [0]),
  (⟨(some 24), .mv (.t 6), none⟩, [6]),
  (⟨(some 25), .iad 1 (.t 23) (.t 24), none⟩, [23, 24]),
  (⟨(some 26), .ld none (.t 25), none⟩, [25]),
  (⟨(some 27), .mv (.t 1), none⟩, [1]),
  (⟨(some 28), .mv (.t 9), none⟩, [9]),
  (⟨(some 29), .iad 1 (.t 27) (.t 28), none⟩, [27, 28]),
  (⟨(some 30), .ld none (.t 29), none⟩, [29]),
  (⟨(some 31), .call 20 [(.t 26), (.t 30)], none⟩, [26, 30]),
  (⟨(some 10), .mv (.t 31), none⟩, [31])]
abbrev c33_13 : AC := .reg [⟨(some 32), .mv (.t 10), none⟩,
  ⟨(some 33), .mv (.t 32), none⟩,
  ⟨(some 34), .mv (.t 8), (some (33, true))⟩,
  ⟨(some 35), .not (.t 34), (some (33, true))⟩,
  ⟨(some 36), .pick (.t 33) (.t 35) (.k (.B false)), none⟩] false
abbrev c33_14 : AC := .reg [⟨(some 37), .mv (.t 7), none⟩,
  ⟨(some 38), .bin .add (.t 37) (.k (.I 1)), none⟩,
  ⟨(some 7), .mv (.t 38), none⟩] false
abbrev c33_15 : AC := .cond (.t 36) c33_14 .skip
abbrev c33_16 : AC := .seq c33_13 c33_15
abbrev c33_17 : AC := .reg [⟨(some 39), .mv (.t 10), none⟩,
  ⟨(some 8), .mv (.t 39), none⟩] false
abbrev c33_18 : AC := .seq c33_16 c33_17
abbrev c33_19 : AC := .seq c33_12 c33_18
abbrev c33_20 : AC := .block 3 c33_19
abbrev c33_21 : AC := .reg [⟨(some 21), .mv (.t 9), none⟩,
  ⟨(some 22), .bin .add (.t 21) (.k (.I 1)), none⟩,
  ⟨(some 9), .mv (.t 22), none⟩] false
abbrev c33_22 : AC := .seq c33_20 c33_21
abbrev c33_23 : AC := .seq c33_11 c33_22
abbrev c33_24 : AC := .loop c33_23
abbrev c33_25 : AC := .block 2 c33_24
abbrev c33_26 : AC := .seq c33_8 c33_25
abbrev c33_27 : AC := .reg [⟨(some 40), .mv (.t 5), none⟩,
  ⟨(some 41), .mv (.t 7), none⟩,
  ⟨(some 42), .bin .sub (.t 41) (.k (.I 1)), none⟩,
  ⟨(some 43), .minmax true (.t 42) (.k (.I 0)), none⟩,
  ⟨(some 44), .bin .add (.t 40) (.t 43), none⟩,
  ⟨(some 5), .mv (.t 44), none⟩] false
abbrev c33_28 : AC := .seq c33_26 c33_27
abbrev c33_29 : AC := .seq c33_7 c33_28
abbrev c33_30 : AC := .block 1 c33_29
abbrev c33_31 : AC := .reg [⟨(some 15), .mv (.t 6), none⟩,
  ⟨(some 16), .bin .add (.t 15) (.k (.I 1)), none⟩,
  ⟨(some 6), .mv (.t 16), none⟩] false
abbrev c33_32 : AC := .seq c33_30 c33_31
abbrev c33_33 : AC := .seq c33_6 c33_32
abbrev c33_34 : AC := .loop c33_33
abbrev c33_35 : AC := .block 0 c33_34
abbrev c33_36 : AC := .seq c33_3 c33_35
abbrev c33_37 : AC := .reg [⟨(some 45), .mv (.t 5), none⟩,
  ⟨(some 4), .mv (.t 45), none⟩] false
abbrev c33_38 : AC := .seq c33_37 .ret
abbrev c33_39 : AC := .seq c33_36 c33_38
abbrev c33_40 : AC := .seq c33_2 c33_39
abbrev c33_41 : AC := .seq c33_1 c33_40
abbrev c33 : AC := c33_41
theorem code33 : fnCode Try.prog 33 = some (c33, [4], 46) := by kernel_rfl
/- coinage/coinageref30.Next -/
abbrev c34_1 : AC := .reg [⟨(some 2), .mv (.k (.c .nil)), none⟩,
  ⟨(some 3), .mv (.k (.B false)), none⟩] false
abbrev c34_2 : AC := .reg [⟨(some 9), .bslice 3 1 [], none⟩,
  ⟨(some 10), .mv (.t 0), none⟩,
  ⟨(some 11), .app 3 1 8 (.t 9) (.t 10), none⟩,
  ⟨(some 4), .mv (.t 11), none⟩] false
abbrev c34_3 : AC := .reg [⟨(some 12), .mv (.t 4), none⟩,
  ⟨(some 13), .len (.t 12), none⟩,
  ⟨(some 14), .bin .sub (.t 13) (.k (.I 2)), none⟩,
  ⟨(some 5), .mv (.t 14), none⟩] false
abbrev c34_4 : AC := .regD [(⟨(some 15), .mv (.t 5), none⟩, [5]),
  (⟨(some 16), .bin .geq (.t 15) (.k (.I 0)), none⟩, [15]),
  (⟨(some 17), .mv (.t 16), none⟩, [16]),
  (⟨(some 18), .mv (.t 4), (some (17, true))⟩, [4, 17]),
  (⟨(some 19), .mv (.t 5), (some (17, true))⟩, [5, 17]),
  (⟨(some 20), .iad 1 (.t 18) (.t 19), (some (17, true))⟩, [18, 19, 17]),
  (⟨(some 21), .ld none (.t 20), (some (17, true))⟩, [20, 17]),
  (⟨(some 22), .mv (.t 4), (some (17, true))⟩, [4, 17]),
  (⟨(some 23), .mv (.t 5), (some (17, true))⟩, [5, 17]),
  (⟨(some 24), .bin .add (.t 23) (.k (.I 1)), (some (17, true))⟩, [23, 17]),
  (⟨(some 25), .iad 1 (.t 22) (.t 24), (some (17, true))⟩, [22, 24, 17]),
  (⟨(some 26), .ld none (.t 25), (some (17, true))⟩, [25, 17]),
  (⟨(some 27), .bin .gtr (.t 21) (.t 26), (some (17, true))⟩, [21, 26, 17]),
  (⟨(some 28), .pick (.t 17) (.t 27) (.k (.B false)), none⟩, [17, 27])]
abbrev c34_5 : AC := .cond (.t 28) .skip (.exit 0)
abbrev c34_6 : AC := .seq c34_4 c34_5
abbrev c34_7 : AC := .reg [⟨(some 29), .mv (.t 5), none⟩,
  ⟨(some 30), .bin .sub (.t 29) (.k (.I 1)), none⟩,
  ⟨(some 5), .mv (.t 30), none⟩] false
abbrev c34_8 : AC := .block 1 c34_7
abbrev c34_9 : AC := .seq c34_6 c34_8
abbrev c34_10 : AC := .loop c34_9
abbrev c34_11 : AC := .block 0 c34_10
abbrev c34_12 : AC := .reg [⟨(some 31), .mv (.t 5), none⟩,
  ⟨(some 32), .bin .lss (.t 31) (.k (.I 0)), none⟩] false
abbrev c34_13 : AC := .reg [⟨(some 2), .mv (.k (.c .nil)), none⟩,
  ⟨(some 3), .mv (.k (.B false)), none⟩] false
abbrev c34_14 : AC := .seq c34_13 .ret
abbrev c34_15 : AC := .cond (.t 32) c34_14 .skip
abbrev c34_16 : AC := .seq c34_12 c34_15
abbrev c34_17 : AC := .reg [⟨(some 33), .mv (.t 4), none⟩,
  ⟨(some 34), .len (.t 33), none⟩,
  ⟨(some 35), .bin .sub (.t 34) (.k (.I 1)), none⟩,
  ⟨(some 6), .mv (.t 35), none⟩] false
abbrev c34_18 : AC := .regD [(⟨(some 36), .mv (.t 4), none⟩, [4]),
  (⟨(some 37), .mv (.t 6), none⟩, [6]),
  (⟨(some 38), .iad 1 (.t 36) (.t 37), none⟩, [36, 37]),
  (⟨(some 39), .ld none (.t 38), none⟩, [38]),
  (⟨(some 40), .mv (.t 4), none⟩, [4]),
  (⟨(some 41), .mv (.t 5), none⟩, [5]),
  (⟨(some 42), .iad 1 (.t 40) (.t 41), none⟩, [40, 41]),
  (⟨(some 43), .ld none (.t 42), none⟩, [42]),
  (⟨(some 44), .bin .lss (.t 39) (.t 43), none⟩, [39, 43])]
abbrev c34_19 : AC := .cond (.t 44) .skip (.exit 2)
abbrev c34_20 : AC := .seq c34_18 c34_19
abbrev c34_21 : AC := .reg [⟨(some 45), .mv (.t 6), none⟩,
  ⟨(some 46), .bin .sub (.t 45) (.k (.I 1)), none⟩,
  ⟨(some 6), .mv (.t 46), none⟩] false
abbrev c34_22 : AC := .block 3 c34_21
abbrev c34_23 : AC := .seq c34_20 c34_22
abbrev c34_24 : AC := .loop c34_23
abbrev c34_25 : AC := .block 2 c34_24
abbrev c34_26 : AC := .regX (.first ⟨(some 47), .mv (.t 4), none⟩
  (.first ⟨(some 48), .mv (.t 5), none⟩
  (.first ⟨(some 49), .mv (.t 4), none⟩
  (.first ⟨(some 50), .mv (.t 6), none⟩
  (.first ⟨(some 51), .mv (.t 4), none⟩
  (.first ⟨(some 52), .mv (.t 6), none⟩
  (.first ⟨(some 53), .iad 1 (.t 51) (.t 52), none⟩
  (.first ⟨(some 55), .mv (.t 4), none⟩
  (.first ⟨(some 56), .mv (.t 5), none⟩
  (.first ⟨(some 57), .iad 1 (.t 55) (.t 56), none⟩
  (.fork ⟨(some 54), .ld none (.t 53), none⟩
  (.fork ⟨(some 58), .ld none (.t 57), none⟩
  (.first ⟨(some 59), .iad 1 (.t 47) (.t 48), none⟩
  (.fork ⟨none, .st none (.t 59) (.t 54), none⟩
  (.first ⟨(some 60), .iad 1 (.t 49) (.t 50), none⟩
  (.fork ⟨none, .st none (.t 60) (.t 58), none⟩
  .done
  .nope))
  .nope))
  .nope)
  (.fork ⟨(some 58), .ld none (.t 57), none⟩
  (.fork ⟨(some 54), .ld none (.t 53), none⟩
  (.first ⟨(some 59), .iad 1 (.t 47) (.t 48), none⟩
  (.fork ⟨none, .st none (.t 59) (.t 54), none⟩
  (.first ⟨(some 60), .iad 1 (.t 49) (.t 50), none⟩
  (.fork ⟨none, .st none (.t 60) (.t 58), none⟩
  .done
  .nope))
  .nope))
  .nope)
  .nope))))))))))))
abbrev c34_27 : AC := .reg [⟨(some 61), .mv (.t 5), none⟩,
  ⟨(some 62), .bin .add (.t 61) (.k (.I 1)), none⟩,
  ⟨(some 63), .mv (.t 4), none⟩,
  ⟨(some 64), .len (.t 63), none⟩,
  ⟨(some 65), .bin .sub (.t 64) (.k (.I 1)), none⟩,
  ⟨(some 7), .mv (.t 62), none⟩,
  ⟨(some 8), .mv (.t 65), none⟩] false
abbrev c34_28 : AC := .reg [⟨(some 66), .mv (.t 7), none⟩,
  ⟨(some 67), .mv (.t 8), none⟩,
  ⟨(some 68), .bin .lss (.t 66) (.t 67), none⟩] false
abbrev c34_29 : AC := .cond (.t 68) .skip (.exit 4)
abbrev c34_30 : AC := .seq c34_28 c34_29
abbrev c34_31 : AC := .regX (.first ⟨(some 73), .mv (.t 4), none⟩
  (.first ⟨(some 74), .mv (.t 7), none⟩
  (.first ⟨(some 75), .mv (.t 4), none⟩
  (.first ⟨(some 76), .mv (.t 8), none⟩
  (.first ⟨(some 77), .mv (.t 4), none⟩
  (.first ⟨(some 78), .mv (.t 8), none⟩
  (.first ⟨(some 79), .iad 1 (.t 77) (.t 78), none⟩
  (.first ⟨(some 81), .mv (.t 4), none⟩
  (.first ⟨(some 82), .mv (.t 7), none⟩
  (.first ⟨(some 83), .iad 1 (.t 81) (.t 82), none⟩
  (.fork ⟨(some 80), .ld none (.t 79), none⟩
  (.fork ⟨(some 84), .ld none (.t 83), none⟩
  (.first ⟨(some 85), .iad 1 (.t 73) (.t 74), none⟩
  (.fork ⟨none, .st none (.t 85) (.t 80), none⟩
  (.first ⟨(some 86), .iad 1 (.t 75) (.t 76), none⟩
  (.fork ⟨none, .st none (.t 86) (.t 84), none⟩
  .done
  .nope))
  .nope))
  .nope)
  (.fork ⟨(some 84), .ld none (.t 83), none⟩
  (.fork ⟨(some 80), .ld none (.t 79), none⟩
  (.first ⟨(some 85), .iad 1 (.t 73) (.t 74), none⟩
  (.fork ⟨none, .st none (.t 85) (.t 80), none⟩
  (.first ⟨(some 86), .iad 1 (.t 75) (.t 76), none⟩
  (.fork ⟨none, .st none (.t 86) (.t 84), none⟩
  .done
  .nope))
  .nope))
  .nope)
  .nope))))))))))))
abbrev c34_32 : AC := .block 5 c34_31
abbrev c34_33 : AC := .reg [⟨(some 69), .mv (.t 7), none⟩,
  ⟨(some 70), .bin .add (.t 69) (.k (.I 1)), none⟩,
  ⟨(some 71), .mv (.t 8), none⟩,
  ⟨(some 72), .bin .sub (.t 71) (.k (.I 1)), none⟩,
  ⟨(some 7), .mv (.t 70), none⟩,
  ⟨(some 8), .mv (.t 72), none⟩] false
abbrev c34_34 : AC := .seq c34_32 c34_33
abbrev c34_35 : AC := .seq c34_30 c34_34
abbrev c34_36 : AC := .loop c34_35
abbrev c34_37 : AC := .block 4 c34_36
abbrev c34_38 : AC := .seq c34_27 c34_37
abbrev c34_39 : AC := .reg [⟨(some 87), .mv (.t 4), none⟩,
  ⟨(some 2), .mv (.t 87), none⟩,
  ⟨(some 3), .mv (.k (.B true)), none⟩] false
abbrev c34_40 : AC := .seq c34_39 .ret
abbrev c34_41 : AC := .seq c34_38 c34_40
abbrev c34_42 : AC := .seq c34_26 c34_41
abbrev c34_43 : AC := .seq c34_25 c34_42
abbrev c34_44 : AC := .seq c34_17 c34_43
abbrev c34_45 : AC := .seq c34_16 c34_44
abbrev c34_46 : AC := .seq c34_11 c34_45
abbrev c34_47 : AC := .seq c34_3 c34_46
abbrev c34_48 : AC := .seq c34_2 c34_47
abbrev c34_49 : AC := .seq c34_1 c34_48
abbrev c34 : AC := c34_49
theorem code34 : fnCode Try.prog 34 = some (c34, [2, 3], 88) := by kernel_rfl
/- coinage/seriation.begin -/
abbrev c35_1 : AC := .reg [⟨(some 4), .mv (.k .any), none⟩] false
abbrev c35_2 : AC := .reg [⟨(some 11), .mv (.t 0), none⟩,
  ⟨(some 12), .mv (.t 0), none⟩,
  ⟨(some 13), .mks 4 1 1 [(.sc (.bool false))] (.t 12) (.t 12), none⟩,
  ⟨(some 14), .build [(.I 0), (.c .nil), (.c .nil), (.c .nil), (.c .nil), (.I 0)] [(0, 1, (.t 11)), (3, 1, (.t 13)), (5, 1, (.k (.I (-1))))], none⟩,
  ⟨(some 15), .box 51 (some 6) (.t 14), none⟩,
  ⟨(some 5), .mv (.t 15), none⟩] false
abbrev c35_3 : AC := .reg [⟨(some 16), .mv (.t 1), none⟩,
  ⟨(some 17), .len (.t 16), none⟩,
  ⟨(some 18), .mv (.k (.I 0)), none⟩] false
abbrev c35_4 : AC := .reg [⟨(some 19), .bin .lss (.t 18) (.t 17), none⟩] false
abbrev c35_5 : AC := .cond (.t 19) .skip (.exit 0)
abbrev c35_6 : AC := .reg [⟨(some 20), .iad 1 (.t 16) (.t 18), none⟩,
  ⟨(some 21), .ld none (.t 20), none⟩,
  ⟨(some 7), .mv (.t 21), none⟩] false
abbrev c35_7 : AC := .reg [⟨(some 22), .mv (.t 0), none⟩,
  ⟨(some 23), .mks 4 1 1 [(.sc (.bool false))] (.t 22) (.t 22), none⟩,
  ⟨(some 8), .mv (.t 23), none⟩] false
abbrev c35_8 : AC := .reg [⟨(some 24), .mv (.t 7), none⟩,
  ⟨(some 25), .len (.t 24), none⟩,
  ⟨(some 26), .mv (.k (.I 0)), none⟩] false
abbrev c35_9 : AC := .reg [⟨(some 27), .bin .lss (.t 26) (.t 25), none⟩] false
abbrev c35_10 : AC := .cond (.t 27) .skip (.exit 2)
abbrev c35_11 : AC := .reg [⟨(some 28), .iad 1 (.t 24) (.t 26), none⟩,
  ⟨(some 29), .ld none (.t 28), none⟩,
  ⟨(some 10), .mv (.t 29), none⟩] false
abbrev c35_12 : AC := .reg [⟨(some 30), .mv (.t 8), none⟩,
  ⟨(some 31), .mv (.t 10), none⟩,
  ⟨(some 32), .iad 1 (.t 30) (.t 31), none⟩,
  ⟨none, .st none (.t 32) (.k (.B true)), none⟩] false
abbrev c35_13 : AC := .seq c35_11 c35_12
abbrev c35_14 : AC := .block 3 c35_13
abbrev c35_15 : AC := .reg [⟨(some 33), .bin .add (.t 26) (.k (.I 1)), none⟩,
  ⟨(some 26), .mv (.t 33), none⟩] false
abbrev c35_16 : AC := .seq c35_14 c35_15
abbrev c35_17 : AC := .seq c35_10 c35_16
abbrev c35_18 : AC := .seq c35_9 c35_17
abbrev c35_19 : AC := .loop c35_18
abbrev c35_20 : AC := .block 2 c35_19
abbrev c35_21 : AC := .seq c35_8 c35_20
abbrev c35_22 : AC := .reg [⟨(some 34), .mv (.t 5), none⟩,
  ⟨(some 35), .mv (.t 5), none⟩,
  ⟨(some 36), .nilck (.t 35), none⟩,
  ⟨(some 37), .fad 1 (.t 36), none⟩,
  ⟨(some 38), .ld none (.t 37), none⟩,
  ⟨(some 39), .mv (.t 8), none⟩,
  ⟨(some 40), .bslice 49 1 [(.t 39)], none⟩,
  ⟨(some 41), .app 49 1 24 (.t 38) (.t 40), none⟩,
  ⟨(some 42), .nilck (.t 34), none⟩,
  ⟨(some 43), .fad 1 (.t 42), none⟩,
  ⟨none, .st none (.t 43) (.t 41), none⟩] false
abbrev c35_23 : AC := .seq c35_21 c35_22
abbrev c35_24 : AC := .seq c35_7 c35_23
abbrev c35_25 : AC := .seq c35_6 c35_24
abbrev c35_26 : AC := .block 1 c35_25
abbrev c35_27 : AC := .reg [⟨(some 44), .bin .add (.t 18) (.k (.I 1)), none⟩,
  ⟨(some 18), .mv (.t 44), none⟩] false
abbrev c35_28 : AC := .seq c35_26 c35_27
abbrev c35_29 : AC := .seq c35_5 c35_28
abbrev c35_30 : AC := .seq c35_4 c35_29
abbrev c35_31 : AC := .loop c35_30
abbrev c35_32 : AC := .block 0 c35_31
abbrev c35_33 : AC := .seq c35_3 c35_32
abbrev c35_34 : AC := .reg [⟨(some 45), .mv (.t 5), none⟩,
  ⟨(some 4), .mv (.t 45), none⟩] false
abbrev c35_35 : AC := .seq c35_34 .ret
abbrev c35_36 : AC := .seq c35_33 c35_35
abbrev c35_37 : AC := .seq c35_2 c35_36
abbrev c35_38 : AC := .seq c35_1 c35_37
abbrev c35 : AC := c35_38
theorem code35 : fnCode Try.prog 35 = some (c35, [4], 46) := by kernel_rfl
/- slices.Reverse[[]int,int] -/
abbrev c38_1 : AC := .reg [⟨(some 4), .mv (.t 0), none⟩,
  ⟨(some 5), .len (.t 4), none⟩,
  ⟨(some 6), .bin .sub (.t 5) (.k (.I 1)), none⟩,
  ⟨(some 2), .mv (.k (.I 0)), none⟩,
  ⟨(some 3), .mv (.t 6), none⟩] false
abbrev c38_2 : AC := .reg [⟨(some 7), .mv (.t 2), none⟩,
  ⟨(some 8), .mv (.t 3), none⟩,
  ⟨(some 9), .bin .lss (.t 7) (.t 8), none⟩] false
abbrev c38_3 : AC := .cond (.t 9) .skip (.exit 0)
abbrev c38_4 : AC := .seq c38_2 c38_3
abbrev c38_5 : AC := .regX (.first ⟨(some 14), .mv (.t 0), none⟩
  (.first ⟨(some 15), .mv (.t 2), none⟩
  (.first ⟨(some 16), .mv (.t 0), none⟩
  (.first ⟨(some 17), .mv (.t 3), none⟩
  (.first ⟨(some 18), .mv (.t 0), none⟩
  (.first ⟨(some 19), .mv (.t 3), none⟩
  (.first ⟨(some 20), .iad 1 (.t 18) (.t 19), none⟩
  (.first ⟨(some 22), .mv (.t 0), none⟩
  (.first ⟨(some 23), .mv (.t 2), none⟩
  (.first ⟨(some 24), .iad 1 (.t 22) (.t 23), none⟩
  (.fork ⟨(some 21), .ld none (.t 20), none⟩
  (.fork ⟨(some 25), .ld none (.t 24), none⟩
  (.first ⟨(some 26), .iad 1 (.t 14) (.t 15), none⟩
  (.fork ⟨none, .st none (.t 26) (.t 21), none⟩
  (.first ⟨(some 27), .iad 1 (.t 16) (.t 17), none⟩
  (.fork ⟨none, .st none (.t 27) (.t 25), none⟩
  .done
  .nope))
  .nope))
  .nope)
  (.fork ⟨(some 25), .ld none (.t 24), none⟩
  (.fork ⟨(some 21), .ld none (.t 20), none⟩
  (.first ⟨(some 26), .iad 1 (.t 14) (.t 15), none⟩
  (.fork ⟨none, .st none (.t 26) (.t 21), none⟩
  (.first ⟨(some 27), .iad 1 (.t 16) (.t 17), none⟩
  (.fork ⟨none, .st none (.t 27) (.t 25), none⟩
  .done
  .nope))
  .nope))
  .nope)
  .nope))))))))))))
abbrev c38_6 : AC := .block 1 c38_5
abbrev c38_7 : AC := .reg [⟨(some 10), .mv (.t 2), none⟩,
  ⟨(some 11), .bin .add (.t 10) (.k (.I 1)), none⟩,
  ⟨(some 12), .mv (.t 3), none⟩,
  ⟨(some 13), .bin .sub (.t 12) (.k (.I 1)), none⟩,
  ⟨(some 2), .mv (.t 11), none⟩,
  ⟨(some 3), .mv (.t 13), none⟩] false
abbrev c38_8 : AC := .seq c38_6 c38_7
abbrev c38_9 : AC := .seq c38_4 c38_8
abbrev c38_10 : AC := .loop c38_9
abbrev c38_11 : AC := .block 0 c38_10
abbrev c38_12 : AC := .seq c38_1 c38_11
abbrev c38 : AC := c38_12
theorem code38 : fnCode Try.prog 38 = some (c38, [], 28) := by kernel_rfl
/- coinage/coinageref30.swapped -/
abbrev c40_1 : AC := .reg [⟨(some 4), .mv (.k (.c .nil)), none⟩] false
abbrev c40_2 : AC := .reg [⟨(some 6), .bslice 3 1 [], none⟩,
  ⟨(some 7), .mv (.t 0), none⟩,
  ⟨(some 8), .app 3 1 8 (.t 6) (.t 7), none⟩,
  ⟨(some 5), .mv (.t 8), none⟩] false
abbrev c40_3 : AC := .regX (.first ⟨(some 9), .mv (.t 5), none⟩
  (.first ⟨(some 10), .mv (.t 1), none⟩
  (.first ⟨(some 11), .mv (.t 5), none⟩
  (.first ⟨(some 12), .mv (.t 1), none⟩
  (.first ⟨(some 13), .bin .add (.t 12) (.k (.I 1)), none⟩
  (.first ⟨(some 14), .mv (.t 5), none⟩
  (.first ⟨(some 15), .mv (.t 1), none⟩
  (.first ⟨(some 16), .bin .add (.t 15) (.k (.I 1)), none⟩
  (.first ⟨(some 17), .iad 1 (.t 14) (.t 16), none⟩
  (.first ⟨(some 19), .mv (.t 5), none⟩
  (.first ⟨(some 20), .mv (.t 1), none⟩
  (.first ⟨(some 21), .iad 1 (.t 19) (.t 20), none⟩
  (.fork ⟨(some 18), .ld none (.t 17), none⟩
  (.fork ⟨(some 22), .ld none (.t 21), none⟩
  (.first ⟨(some 23), .iad 1 (.t 9) (.t 10), none⟩
  (.fork ⟨none, .st none (.t 23) (.t 18), none⟩
  (.first ⟨(some 24), .iad 1 (.t 11) (.t 13), none⟩
  (.fork ⟨none, .st none (.t 24) (.t 22), none⟩
  .done
  .nope))
  .nope))
  .nope)
  (.fork ⟨(some 22), .ld none (.t 21), none⟩
  (.fork ⟨(some 18), .ld none (.t 17), none⟩
  (.first ⟨(some 23), .iad 1 (.t 9) (.t 10), none⟩
  (.fork ⟨none, .st none (.t 23) (.t 18), none⟩
  (.first ⟨(some 24), .iad 1 (.t 11) (.t 13), none⟩
  (.fork ⟨none, .st none (.t 24) (.t 22), none⟩
  .done
  .nope))
  .nope))
  .nope)
  .nope))))))))))))))
abbrev c40_4 : AC := .reg [⟨(some 25), .mv (.t 5), none⟩,
  ⟨(some 4), .mv (.t 25), none⟩] false
abbrev c40_5 : AC := .seq c40_4 .ret
abbrev c40_6 : AC := .seq c40_3 c40_5
abbrev c40_7 : AC := .seq c40_2 c40_6
abbrev c40_8 : AC := .seq c40_1 c40_7
abbrev c40 : AC := c40_8
theorem code40 : fnCode Try.prog 40 = some (c40, [4], 26) := by kernel_rfl
/- (*coinage/seriation.search).place -/
abbrev c42_1 : AC := .reg [⟨(some 11), .mv (.t 0), none⟩,
  ⟨(some 12), .nilck (.t 11), none⟩,
  ⟨(some 13), .fad 5 (.t 12), none⟩,
  ⟨(some 14), .ld none (.t 13), none⟩,
  ⟨(some 15), .bin .geq (.t 14) (.k (.I 0)), none⟩,
  ⟨(some 16), .mv (.t 15), none⟩,
  ⟨(some 17), .mv (.t 2), (some (16, true))⟩,
  ⟨(some 18), .mv (.t 0), (some (16, true))⟩,
  ⟨(some 19), .nilck (.t 18), (some (16, true))⟩,
  ⟨(some 20), .fad 5 (.t 19), (some (16, true))⟩,
  ⟨(some 21), .ld none (.t 20), (some (16, true))⟩,
  ⟨(some 22), .bin .geq (.t 17) (.t 21), (some (16, true))⟩,
  ⟨(some 23), .pick (.t 16) (.t 22) (.k (.B false)), none⟩] false
abbrev c42_2 : AC := .cond (.t 23) .ret .skip
abbrev c42_3 : AC := .seq c42_1 c42_2
abbrev c42_4 : AC := .regD [(⟨(some 24), .mv (.t 0), none⟩, [0]),
  (⟨(some 25), .nilck (.t 24), none⟩, [24]),
  (⟨(some 26), .fad 2 (.t 25), none⟩, [25]),
  (⟨(some 27), .ld none (.t 26), none⟩, [26]),
  (⟨(some 28), .len (.t 27), none⟩, [27]),
  (⟨(some 29), .mv (.t 0), none⟩, [0]),
  (⟨(some 30), .nilck (.t 29), none⟩, [29]),
  (⟨(some 31), .fad 0 (.t 30), none⟩, [30]),
  (⟨(some 32), .ld none (.t 31), none⟩, [31]),
  (⟨(some 33), .bin .eql (.t 28) (.t 32), none⟩, [28, 32])]
abbrev c42_5 : AC := .reg [⟨(some 34), .mv (.t 0), none⟩,
  ⟨(some 35), .mv (.t 0), none⟩,
  ⟨(some 36), .mv (.t 0), none⟩,
  ⟨(some 37), .nilck (.t 36), none⟩,
  ⟨(some 38), .fad 2 (.t 37), none⟩,
  ⟨(some 39), .ld none (.t 38), none⟩,
  ⟨(some 40), .call 37 [(.t 39)], none⟩,
  ⟨(some 41), .mv (.t 2), none⟩,
  ⟨(some 42), .nilck (.t 34), none⟩,
  ⟨(some 43), .fad 4 (.t 42), none⟩,
  ⟨none, .st none (.t 43) (.t 40), none⟩,
  ⟨(some 44), .nilck (.t 35), none⟩,
  ⟨(some 45), .fad 5 (.t 44), none⟩,
  ⟨none, .st none (.t 45) (.t 41), none⟩] false
abbrev c42_6 : AC := .seq c42_5 .ret
abbrev c42_7 : AC := .cond (.t 33) c42_6 .skip
abbrev c42_8 : AC := .seq c42_4 c42_7
abbrev c42_9 : AC := .reg [⟨(some 46), .mv (.t 0), none⟩,
  ⟨(some 47), .nilck (.t 46), none⟩,
  ⟨(some 48), .fad 0 (.t 47), none⟩,
  ⟨(some 49), .ld none (.t 48), none⟩,
  ⟨(some 50), .mv (.k (.I 0)), none⟩] false
abbrev c42_10 : AC := .reg [⟨(some 51), .bin .lss (.t 50) (.t 49), none⟩] false
abbrev c42_11 : AC := .cond (.t 51) .skip (.exit 0)
abbrev c42_12 : AC := .reg [⟨(some 52), .mv (.t 50), none⟩,
  ⟨(some 6), .mv (.t 52), none⟩] false
abbrev c42_13 : AC := .reg [⟨(some 53), .mv (.t 0), none⟩,
  ⟨(some 54), .nilck (.t 53), none⟩,
  ⟨(some 55), .fad 3 (.t 54), none⟩,
  ⟨(some 56), .ld none (.t 55), none⟩,
  ⟨(some 57), .mv (.t 6), none⟩,
  ⟨(some 58), .iad 1 (.t 56) (.t 57), none⟩,
  ⟨(some 59), .ld none (.t 58), none⟩] false
abbrev c42_14 : AC := .cond (.t 59) (.exit 1) .skip
abbrev c42_15 : AC := .seq c42_13 c42_14
abbrev c42_16 : AC := .reg [⟨(some 60), .mv (.t 1), none⟩,
  ⟨(some 61), .call 37 [(.t 60)], none⟩,
  ⟨(some 62), .mv (.t 2), none⟩,
  ⟨(some 7), .mv (.t 61), none⟩,
  ⟨(some 8), .mv (.t 62), none⟩] false
abbrev c42_17 : AC := .reg [⟨(some 63), .mv (.t 0), none⟩,
  ⟨(some 64), .nilck (.t 63), none⟩,
  ⟨(some 65), .fad 1 (.t 64), none⟩,
  ⟨(some 66), .ld none (.t 65), none⟩,
  ⟨(some 67), .len (.t 66), none⟩,
  ⟨(some 68), .mv (.k (.I 0)), none⟩] false
abbrev c42_18 : AC := .reg [⟨(some 69), .bin .lss (.t 68) (.t 67), none⟩] false
abbrev c42_19 : AC := .cond (.t 69) .skip (.exit 2)
abbrev c42_20 : AC := .reg [⟨(some 70), .mv (.t 68), none⟩,
  ⟨(some 71), .iad 1 (.t 66) (.t 68), none⟩,
  ⟨(some 72), .ld none (.t 71), none⟩,
  ⟨(some 9), .mv (.t 70), none⟩,
  ⟨(some 10), .mv (.t 72), none⟩] false
abbrev c42_21 : AC := .regD [(⟨(some 73), .mv (.t 10), none⟩, [10]),
  (⟨(some 74), .mv (.t 6), none⟩, [6]),
  (⟨(some 75), .iad 1 (.t 73) (.t 74), none⟩, [73, 74]),
  (⟨(some 76), .ld none (.t 75), none⟩, [75]),
  (⟨(some 77), .not (.t 76), none⟩, [76]),
  (⟨(some 78), .mv (.t 77), none⟩, [77]),
  (⟨(some 79), .mv (.t 0), (some (78, false))⟩, [0, 78]),
  (⟨(some 80), .nilck (.t 79), (some (78, false))⟩, [79, 78]),
  (⟨(some 81), .fad 2 (.t 80), (some (78, false))⟩, [80, 78]),
  (⟨(some 82), .ld none (.t 81), (some (78, false))⟩, [81, 78]),
  (⟨(some 83), .len (.t 82), (some (78, false))⟩, [82, 78]),
  (⟨(some 84), .bin .gtr (.t 83) (.k (.I 0)), (some (78, false))⟩, [83, 78]),
  (⟨(some 85), .mv (.t 84), (some (78, false))⟩, [84, 78]),
  (⟨(some 86), .mv (.t 10), (some (85, true))⟩, [10, 85]),
  (⟨(some 87), .mv (.t 0), (some (85, true))⟩, [0, 85]),
  (⟨(some 88), .nilck (.t 87), (some (85, true))⟩, [87, 85]),
  (⟨(some 89), .fad 2 (.t 88), (some (85, true))⟩, [88, 85]),
  (⟨(some 90), .ld none (.t 89), (some (85, true))⟩, [89, 85]),
  (⟨(some 91), .mv (.t 0), (some (85, true))⟩, [0, 85]),
  (⟨(some 92), .nilck (.t 91), (some (85, true))⟩, [91, 85]),
  (⟨(some 93), .fad 2 (.t 92), (some (85, true))⟩, [92, 85]),
  (⟨(some 94), .ld none (.t 93), (some (85, true))⟩, [93, 85]),
  (⟨(some 95), .len (.t 94), (some (85, true))⟩, [94, 85]),
  (⟨(some 96), .bin .sub (.t 95) (.k (.I 1)), (some (85, true))⟩, [95, 85]),
  (⟨(some 97), .iad 1 (.t 90) (.t 96), (some (85, true))⟩, [90, 96, 85]),
  (⟨(some 98), .ld none (.t 97), (some (85, true))⟩, [97, 85]),
  (⟨(some 99), .iad 1 (.t 86) (.t 98), (some (85, true))⟩, [86, 98, 85]),
  (⟨(some 100), .ld none (.t 99), (some (85, true))⟩, [99, 85]),
  (⟨(some 101), .pick (.t 85) (.t 100) (.k (.B false)), (some (78, false))⟩, [85, 100, 78]),
  (⟨(some 102), .pick (.t 78) (.k (.B true)) (.t 101), none⟩, [78, 101])]
abbrev c42_22 : AC := .cond (.t 102) (.exit 3) .skip
abbrev c42_23 : AC := .seq c42_21 c42_22
abbrev c42_24 : AC := .reg [⟨(some 103), .mv (.t 7), none⟩,
  ⟨(some 104), .mv (.t 9), none⟩,
  ⟨(some 105), .iad 1 (.t 103) (.t 104), none⟩,
  ⟨(some 106), .ld none (.t 105), none⟩,
  ⟨(some 107), .bin .add (.t 106) (.k (.I 1)), none⟩,
  ⟨(some 108), .iad 1 (.t 103) (.t 104), none⟩,
  ⟨none, .st none (.t 108) (.t 107), none⟩] false
abbrev c42_25 : AC := .reg [⟨(some 109), .mv (.t 7), none⟩,
  ⟨(some 110), .mv (.t 9), none⟩,
  ⟨(some 111), .iad 1 (.t 109) (.t 110), none⟩,
  ⟨(some 112), .ld none (.t 111), none⟩,
  ⟨(some 113), .bin .gtr (.t 112) (.k (.I 1)), none⟩] false
abbrev c42_26 : AC := .reg [⟨(some 114), .mv (.t 8), none⟩,
  ⟨(some 115), .bin .add (.t 114) (.k (.I 1)), none⟩,
  ⟨(some 8), .mv (.t 115), none⟩] false
abbrev c42_27 : AC := .cond (.t 113) c42_26 .skip
abbrev c42_28 : AC := .seq c42_25 c42_27
abbrev c42_29 : AC := .seq c42_24 c42_28
abbrev c42_30 : AC := .seq c42_23 c42_29
abbrev c42_31 : AC := .seq c42_20 c42_30
abbrev c42_32 : AC := .block 3 c42_31
abbrev c42_33 : AC := .reg [⟨(some 116), .bin .add (.t 68) (.k (.I 1)), none⟩,
  ⟨(some 68), .mv (.t 116), none⟩] false
abbrev c42_34 : AC := .seq c42_32 c42_33
abbrev c42_35 : AC := .seq c42_19 c42_34
abbrev c42_36 : AC := .seq c42_18 c42_35
abbrev c42_37 : AC := .loop c42_36
abbrev c42_38 : AC := .block 2 c42_37
abbrev c42_39 : AC := .seq c42_17 c42_38
abbrev c42_40 : AC := .reg [⟨(some 117), .mv (.t 0), none⟩,
  ⟨(some 118), .nilck (.t 117), none⟩,
  ⟨(some 119), .fad 3 (.t 118), none⟩,
  ⟨(some 120), .ld none (.t 119), none⟩,
  ⟨(some 121), .mv (.t 6), none⟩,
  ⟨(some 122), .iad 1 (.t 120) (.t 121), none⟩,
  ⟨none, .st none (.t 122) (.k (.B true)), none⟩] false
abbrev c42_41 : AC := .reg [⟨(some 123), .mv (.t 0), none⟩,
  ⟨(some 124), .mv (.t 0), none⟩,
  ⟨(some 125), .nilck (.t 124), none⟩,
  ⟨(some 126), .fad 2 (.t 125), none⟩,
  ⟨(some 127), .ld none (.t 126), none⟩,
  ⟨(some 128), .mv (.t 6), none⟩,
  ⟨(some 129), .bslice 3 1 [(.t 128)], none⟩,
  ⟨(some 130), .app 3 1 8 (.t 127) (.t 129), none⟩,
  ⟨(some 131), .nilck (.t 123), none⟩,
  ⟨(some 132), .fad 2 (.t 131), none⟩,
  ⟨none, .st none (.t 132) (.t 130), none⟩] false
abbrev c42_42 : AC := .reg [⟨(some 133), .mv (.t 0), none⟩,
  ⟨(some 134), .mv (.t 7), none⟩,
  ⟨(some 135), .mv (.t 8), none⟩,
  ⟨(some 136), .call 42 [(.t 133), (.t 134), (.t 135)], none⟩] false
abbrev c42_43 : AC := .regX (.first ⟨(some 137), .mv (.t 0), none⟩
  (.first ⟨(some 138), .mv (.t 0), none⟩
  (.first ⟨(some 139), .nilck (.t 138), none⟩
  (.first ⟨(some 140), .fad 2 (.t 139), none⟩
  (.first ⟨(some 142), .mv (.t 0), none⟩
  (.first ⟨(some 143), .nilck (.t 142), none⟩
  (.first ⟨(some 144), .fad 2 (.t 143), none⟩
  (.fork ⟨(some 141), .ld none (.t 140), none⟩
  (.fork ⟨(some 145), .ld none (.t 144), none⟩
  (.first ⟨(some 146), .len (.t 145), none⟩
  (.first ⟨(some 147), .bin .sub (.t 146) (.k (.I 1)), none⟩
  (.fork ⟨(some 148), .slc 1 (.t 141) none (some (.t 147)), none⟩
  (.first ⟨(some 149), .nilck (.t 137), none⟩
  (.first ⟨(some 150), .fad 2 (.t 149), none⟩
  (.fork ⟨none, .st none (.t 150) (.t 148), none⟩
  .done
  .nope)))
  .nope)))
  .nope)
  (.fork ⟨(some 145), .ld none (.t 144), none⟩
  (.first ⟨(some 146), .len (.t 145), none⟩
  (.first ⟨(some 147), .bin .sub (.t 146) (.k (.I 1)), none⟩
  (.fork ⟨(some 141), .ld none (.t 140), none⟩
  (.fork ⟨(some 148), .slc 1 (.t 141) none (some (.t 147)), none⟩
  (.first ⟨(some 149), .nilck (.t 137), none⟩
  (.first ⟨(some 150), .fad 2 (.t 149), none⟩
  (.fork ⟨none, .st none (.t 150) (.t 148), none⟩
  .done
  .nope)))
  .nope)
  .nope)))
  .nope)))))))))
abbrev c42_44 : AC := .reg [⟨(some 151), .mv (.t 0), none⟩,
  ⟨(some 152), .nilck (.t 151), none⟩,
  ⟨(some 153), .fad 3 (.t 152), none⟩,
  ⟨(some 154), .ld none (.t 153), none⟩,
  ⟨(some 155), .mv (.t 6), none⟩,
  ⟨(some 156), .iad 1 (.t 154) (.t 155), none⟩,
  ⟨none, .st none (.t 156) (.k (.B false)), none⟩] false
abbrev c42_45 : AC := .seq c42_43 c42_44
abbrev c42_46 : AC := .seq c42_42 c42_45
abbrev c42_47 : AC := .seq c42_41 c42_46
abbrev c42_48 : AC := .seq c42_40 c42_47
abbrev c42_49 : AC := .seq c42_39 c42_48
abbrev c42_50 : AC := .seq c42_16 c42_49
abbrev c42_51 : AC := .seq c42_15 c42_50
abbrev c42_52 : AC := .seq c42_12 c42_51
abbrev c42_53 : AC := .block 1 c42_52
abbrev c42_54 : AC := .reg [⟨(some 157), .bin .add (.t 50) (.k (.I 1)), none⟩,
  ⟨(some 50), .mv (.t 157), none⟩] false
abbrev c42_55 : AC := .seq c42_53 c42_54
abbrev c42_56 : AC := .seq c42_11 c42_55
abbrev c42_57 : AC := .seq c42_10 c42_56
abbrev c42_58 : AC := .loop c42_57
abbrev c42_59 : AC := .block 0 c42_58
abbrev c42_60 : AC := .seq c42_9 c42_59
abbrev c42_61 : AC := .seq c42_8 c42_60
abbrev c42_62 : AC := .seq c42_3 c42_61
abbrev c42 : AC := c42_62
theorem code42 : fnCode Try.prog 42 = some (c42, [], 158) := by kernel_rfl


end Go.Proofs.Ytjplkpppjlgheaa

-- P p_30.txt
open Go Go.AL Go.RowKit
namespace Go.Proofs.Ytjplkpppjlgheaa
set_option maxRecDepth 20000
/-! ### which columns a row has -/
def inB (n : Nat) (r : List Int) : List Bool := (List.range n).map fun (c : Nat) => decide ((c : Int) ∈ r)
abbrev BRow (l : List Bool) : CD := .sl 1 (l.map fun b => [CD.B b])
abbrev BTab (n : Nat) (t : List (List Int)) : CD := .sl 1 (t.map fun r => [BRow (inB n r)])
theorem inB_len (n : Nat) (r : List Int) : (inB n r).length = n := by simp [inB]
theorem inB_nth {n : Nat} {r : List Int} {c : Nat} (h : c < n) : nth (inB n r) c = decide ((c : Int) ∈ r) := by
  rw [nth_eq _ c (by rw [inB_len]; exact h)]; simp [inB]
theorem inB_nil (n : Nat) : (inB n []).map (fun b => [CD.B b]) = List.replicate n [CD.B false] := by
  refine List.ext_getElem (by simp [inB_len]) fun i h1 h2 => ?_
  simp [inB]
theorem bset (l : List Bool) (i : Nat) (v : Bool) : (l.map fun x => [CD.B x]).set i [CD.B v] = (l.set i v).map fun x => [CD.B x] := by rw [List.map_set]
theorem inB_step (n : Nat) (r : List Int) (j : Nat) (hj : j < r.length) (h0 : 0 ≤ nth r j) : (inB n (r.take j)).set (nth r j).toNat true = inB n (r.take (j + 1)) := by
  refine List.ext_getElem (by simp [inB_len]) fun i h1 h2 => ?_
  rw [List.getElem_set]
  simp only [inB, List.getElem_map, List.getElem_range]
  rw [List.take_succ_eq_append_getElem hj, ← nth_eq r j hj]
  by_cases e : (nth r j).toNat = i
  · rw [if_pos e]
    symm
    simp
    right; omega
  · rw [if_neg e]
    simp
    omega
theorem hold35 {Q : Exit → St → Prop} {σ : St} (h : Hold (AW Try.prog c35_35 Q σ)) : AW Try.prog c35_35 Q σ := h.out
theorem w35 (n : Int) (t : List (List Int)) (hn : 0 ≤ n ∧ n ≤ 1000) (ht : t.length ≤ 1000) (hr : ∀ i, i < t.length → (nth t i).length ≤ 1000 ∧ ∀ x ∈ nth t i, 0 ≤ x ∧ x < n) :
    FnP Try.prog 35 [.I n, .c (Tab t)] [] 15 [(15, .box 51 [.I n, .c (BTab n.toNat t), .c .nil, .own 13, .c .nil, .I (-1)]), (13, .arr 4 1 (List.replicate n.toNat [CD.B false]))] [] := by
  refine fn_walkP code35 (by simp) (by rfl) ⟨_, _, rfl⟩ ?_
  (repeat' (first | refine Sni.mk (fun hc => ?_) ?_ | refine AW_seq ?_ | refine AW_block ?_ | ((first | refine AW_reg ?_ | refine AW_cond ?_ | refine AW_skip ?_ | refine AW_exit ?_ | refine AW_ret ?_ | refine AW_regD (by kernel_rfl) ?_ | refine AW_regX (by kernel_rfl) ?_ | refine CallAtG.t (Eq.refl true) ?_ | refine CallAtG.f (Eq.refl false) ?_); try simp (disch := omega) only [go_sem, Nat.reduceLT, Nat.reduceAdd, Nat.reduceSub, Nat.reduceMul, Nat.reduceBEq, Nat.reduceEqDiff, Nat.reduceLeDiff, reduceCtorEq, ↓reduceIte, beq_dec, Int.reduceToNat, Int.reduceLT, Int.reduceLE, Int.reduceAdd, Int.reduceSub, Int.reduceMul, Int.reduceEq, Int.reduceNeg, Int.reduceNe, Int.toNat_natCast, IntKind.signed, IntKind.bits, Int.reducePow, Nat.reducePow, maxLen]) | refine And.intro (fun hc => (?_ : AW _ _ _ _)) (fun hc => (?_ : AW _ _ _ _)) | simp (disch := omega) only [go_sem, Nat.reduceLT, Nat.reduceAdd, Nat.reduceSub, Nat.reduceMul, Nat.reduceBEq, Nat.reduceEqDiff, Nat.reduceLeDiff, reduceCtorEq, ↓reduceIte, beq_dec, Int.reduceToNat, Int.reduceLT, Int.reduceLE, Int.reduceAdd, Int.reduceSub, Int.reduceMul, Int.reduceEq, Int.reduceNeg, Int.reduceNe, Int.toNat_natCast, IntKind.signed, IntKind.bits, Int.reducePow, Nat.reducePow, maxLen] | (refine And.intro ?_ ?_; focus (first | (intros; omega) | (intros; simp_all; done))) | refine And.intro (?_ : CallAt _ _ _ _ _ _ _ _) ?_ | fail))
  refine AW_nilB 15 1 901 49 1 51 _ rfl rfl ?_
  simp (disch := omega) only [go_sem, Nat.reduceLT, Nat.reduceAdd, Nat.reduceSub, Nat.reduceMul, Nat.reduceBEq, Nat.reduceEqDiff, Nat.reduceLeDiff, reduceCtorEq, ↓reduceIte, beq_dec, Int.reduceToNat, Int.reduceLT, Int.reduceLE, Int.reduceAdd, Int.reduceSub, Int.reduceMul, Int.reduceEq, Int.reduceNeg, Int.reduceNe, Int.toNat_natCast, IntKind.signed, IntKind.bits, Int.reducePow, Nat.reducePow]
  refine AW_loopK [0, 5, 16, 17] [7, 8, 10, 18, 19, 20, 21, 22, 23, 24, 25, 26, 27, 28, 29, 30, 31, 32, 33, 34, 35, 36, 37, 38, 39, 40, 41, 42, 43, 44] (fun i : Nat => i ≤ t.length) (fun i => [(18, .I i)]) (fun i => [(15, .box 51 [.I n, .own 901, .c .nil, .own 13, .c .nil, .I (-1)]), (901, .arr 49 1 ((t.take i).map fun r => [BRow (inB n.toNat r)]))]) (fun i => t.length - i) 0 (by omega) ?_ ?_
  · simp (disch := omega) only [go_sem, Nat.reduceLT, Nat.reduceAdd, Nat.reduceSub, Nat.reduceMul, Nat.reduceBEq, Nat.reduceEqDiff, Nat.reduceLeDiff, reduceCtorEq, ↓reduceIte, beq_dec, Int.reduceToNat, Int.reduceLT, Int.reduceLE, Int.reduceAdd, Int.reduceSub, Int.reduceMul, Int.reduceEq, Int.reduceNeg, Int.reduceNe, Int.toNat_natCast, IntKind.signed, IntKind.bits, Int.reducePow, Nat.reducePow, Int.natCast_zero, List.take_zero, List.map_nil]
  · rintro i hi
    have hri := hr i
    by_cases hil : i < t.length
    case neg =>
      have hd : decide ((i : Int) < (t.length : Int)) = false := decide_eq_false (by omega)
      obtain rfl : i = t.length := by omega
      (repeat' (first | (with_reducible refine hold35 ?_; try simp (disch := omega) only [go_sem, Nat.reduceLT, Nat.reduceAdd, Nat.reduceSub, Nat.reduceMul, Nat.reduceBEq, Nat.reduceEqDiff, Nat.reduceLeDiff, reduceCtorEq, ↓reduceIte, beq_dec, Int.reduceToNat, Int.reduceLT, Int.reduceLE, Int.reduceAdd, Int.reduceSub, Int.reduceMul, Int.reduceEq, Int.reduceNeg, Int.reduceNe, Int.toNat_natCast, IntKind.signed, IntKind.bits, Int.reducePow, Nat.reducePow, hd]) | refine Sni.mk (fun hc => ?_) ?_ | refine AW_seq ?_ | refine AW_block ?_ | ((first | refine AW_reg ?_ | refine AW_cond ?_ | refine AW_skip ?_ | refine AW_exit ?_ | refine AW_ret ?_ | refine AW_regD (by kernel_rfl) ?_ | refine AW_regX (by kernel_rfl) ?_ | refine CallAtG.t (Eq.refl true) ?_ | refine CallAtG.f (Eq.refl false) ?_); try simp (disch := omega) only [go_sem, Nat.reduceLT, Nat.reduceAdd, Nat.reduceSub, Nat.reduceMul, Nat.reduceBEq, Nat.reduceEqDiff, Nat.reduceLeDiff, reduceCtorEq, ↓reduceIte, beq_dec, Int.reduceToNat, Int.reduceLT, Int.reduceLE, Int.reduceAdd, Int.reduceSub, Int.reduceMul, Int.reduceEq, Int.reduceNeg, Int.reduceNe, Int.toNat_natCast, IntKind.signed, IntKind.bits, Int.reducePow, Nat.reducePow, hd]) | refine And.intro (fun hc => (?_ : AW _ _ _ _)) (fun hc => (?_ : AW _ _ _ _)) | simp (disch := omega) only [go_sem, Nat.reduceLT, Nat.reduceAdd, Nat.reduceSub, Nat.reduceMul, Nat.reduceBEq, Nat.reduceEqDiff, Nat.reduceLeDiff, reduceCtorEq, ↓reduceIte, beq_dec, Int.reduceToNat, Int.reduceLT, Int.reduceLE, Int.reduceAdd, Int.reduceSub, Int.reduceMul, Int.reduceEq, Int.reduceNeg, Int.reduceNe, Int.toNat_natCast, IntKind.signed, IntKind.bits, Int.reducePow, Nat.reducePow, hd] | (refine And.intro ?_ ?_; focus (first | (intros; omega) | (intros; simp_all; done))) | refine And.intro (?_ : CallAt _ _ _ _ _ _ _ _) ?_ | fail))
      refine Hold.mk ?_
      refine AW_frz [901] ?_
      rw [List.take_length]
      simp (disch := omega) only [go_sem, Nat.reduceLT, Nat.reduceAdd, Nat.reduceSub, Nat.reduceMul, Nat.reduceBEq, Nat.reduceEqDiff, Nat.reduceLeDiff, reduceCtorEq, ↓reduceIte, beq_dec, Int.reduceToNat, Int.reduceLT, Int.reduceLE, Int.reduceAdd, Int.reduceSub, Int.reduceMul, Int.reduceEq, Int.reduceNeg, Int.reduceNe, Int.toNat_natCast, IntKind.signed, IntKind.bits, Int.reducePow, Nat.reducePow]
      (repeat' (first | refine Sni.mk (fun hc => ?_) ?_ | refine AW_seq ?_ | refine AW_block ?_ | ((first | refine AW_reg ?_ | refine AW_cond ?_ | refine AW_skip ?_ | refine AW_exit ?_ | refine AW_ret ?_ | refine AW_regD (by kernel_rfl) ?_ | refine AW_regX (by kernel_rfl) ?_ | refine CallAtG.t (Eq.refl true) ?_ | refine CallAtG.f (Eq.refl false) ?_); try simp (disch := omega) only [go_sem, Nat.reduceLT, Nat.reduceAdd, Nat.reduceSub, Nat.reduceMul, Nat.reduceBEq, Nat.reduceEqDiff, Nat.reduceLeDiff, reduceCtorEq, ↓reduceIte, beq_dec, Int.reduceToNat, Int.reduceLT, Int.reduceLE, Int.reduceAdd, Int.reduceSub, Int.reduceMul, Int.reduceEq, Int.reduceNeg, Int.reduceNe, Int.toNat_natCast, IntKind.signed, IntKind.bits, Int.reducePow, Nat.reducePow]) | refine And.intro (fun hc => (?_ : AW _ _ _ _)) (fun hc => (?_ : AW _ _ _ _)) | simp (disch := omega) only [go_sem, Nat.reduceLT, Nat.reduceAdd, Nat.reduceSub, Nat.reduceMul, Nat.reduceBEq, Nat.reduceEqDiff, Nat.reduceLeDiff, reduceCtorEq, ↓reduceIte, beq_dec, Int.reduceToNat, Int.reduceLT, Int.reduceLE, Int.reduceAdd, Int.reduceSub, Int.reduceMul, Int.reduceEq, Int.reduceNeg, Int.reduceNe, Int.toNat_natCast, IntKind.signed, IntKind.bits, Int.reducePow, Nat.reducePow] | (refine And.intro ?_ ?_; focus (first | (intros; omega) | (intros; simp_all; done))) | refine And.intro (?_ : CallAt _ _ _ _ _ _ _ _) ?_ | fail))
    case pos =>
      have hd : decide ((i : Int) < (t.length : Int)) = true := decide_eq_true (by omega)
      obtain ⟨hrl, hrx⟩ := hri hil
      (repeat' (first | refine Sni.mk (fun hc => ?_) ?_ | refine AW_seq ?_ | refine AW_block ?_ | ((first | refine AW_reg ?_ | refine AW_cond ?_ | refine AW_skip ?_ | refine AW_exit ?_ | refine AW_ret ?_ | refine AW_regD (by kernel_rfl) ?_ | refine AW_regX (by kernel_rfl) ?_ | refine CallAtG.t (Eq.refl true) ?_ | refine CallAtG.f (Eq.refl false) ?_); try simp (disch := omega) only [go_sem, Nat.reduceLT, Nat.reduceAdd, Nat.reduceSub, Nat.reduceMul, Nat.reduceBEq, Nat.reduceEqDiff, Nat.reduceLeDiff, reduceCtorEq, ↓reduceIte, beq_dec, Int.reduceToNat, Int.reduceLT, Int.reduceLE, Int.reduceAdd, Int.reduceSub, Int.reduceMul, Int.reduceEq, Int.reduceNeg, Int.reduceNe, Int.toNat_natCast, IntKind.signed, IntKind.bits, Int.reducePow, Nat.reducePow, hd, maxLen, getD_map (fun r : List Int => [Row r])]) | refine And.intro (fun hc => (?_ : AW _ _ _ _)) (fun hc => (?_ : AW _ _ _ _)) | simp (disch := omega) only [go_sem, Nat.reduceLT, Nat.reduceAdd, Nat.reduceSub, Nat.reduceMul, Nat.reduceBEq, Nat.reduceEqDiff, Nat.reduceLeDiff, reduceCtorEq, ↓reduceIte, beq_dec, Int.reduceToNat, Int.reduceLT, Int.reduceLE, Int.reduceAdd, Int.reduceSub, Int.reduceMul, Int.reduceEq, Int.reduceNeg, Int.reduceNe, Int.toNat_natCast, IntKind.signed, IntKind.bits, Int.reducePow, Nat.reducePow, hd, maxLen, getD_map (fun r : List Int => [Row r])] | (refine And.intro ?_ ?_; focus (first | (intros; omega) | (intros; simp_all; done))) | refine And.intro (?_ : CallAt _ _ _ _ _ _ _ _) ?_ | fail))
      generalize hR : nth t i = R at *
      refine AW_loopK [0, 5, 8, 16, 17, 18, 24, 25] [10, 26, 27, 28, 29, 30, 31, 32, 33] (fun j : Nat => j ≤ R.length) (fun j => [(26, .I j)]) (fun j => [(23, .arr 4 1 ((inB n.toNat (R.take j)).map fun b => [CD.B b]))]) (fun j => R.length - j) 0 (by omega) ?_ ?_
      · simp (disch := omega) only [go_sem, Nat.reduceLT, Nat.reduceAdd, Nat.reduceSub, Nat.reduceMul, Nat.reduceBEq, Nat.reduceEqDiff, Nat.reduceLeDiff, reduceCtorEq, ↓reduceIte, beq_dec, Int.reduceToNat, Int.reduceLT, Int.reduceLE, Int.reduceAdd, Int.reduceSub, Int.reduceMul, Int.reduceEq, Int.reduceNeg, Int.reduceNe, Int.toNat_natCast, IntKind.signed, IntKind.bits, Int.reducePow, Nat.reducePow, Int.natCast_zero, List.take_zero, inB_nil]
      · rintro j hj
        have hbl := inB_len n.toNat (R.take j)
        have hx := fun h => hrx (nth R j) (nth_mem R j h)
        (repeat' (first | refine Sni.mk (fun hc => ?_) ?_ | refine AW_seq ?_ | refine AW_block ?_ | ((first | refine AW_reg ?_ | refine AW_cond ?_ | refine AW_skip ?_ | refine AW_exit ?_ | refine AW_ret ?_ | refine AW_regD (by kernel_rfl) ?_ | refine AW_regX (by kernel_rfl) ?_ | refine CallAtG.t (Eq.refl true) ?_ | refine CallAtG.f (Eq.refl false) ?_); try simp (disch := omega) only [go_sem, Nat.reduceLT, Nat.reduceAdd, Nat.reduceSub, Nat.reduceMul, Nat.reduceBEq, Nat.reduceEqDiff, Nat.reduceLeDiff, reduceCtorEq, ↓reduceIte, beq_dec, Int.reduceToNat, Int.reduceLT, Int.reduceLE, Int.reduceAdd, Int.reduceSub, Int.reduceMul, Int.reduceEq, Int.reduceNeg, Int.reduceNe, Int.toNat_natCast, IntKind.signed, IntKind.bits, Int.reducePow, Nat.reducePow, maxLen, getD_map (fun x : Int => [CD.I x]), hbl, List.length_take]) | refine And.intro (fun hc => (?_ : AW _ _ _ _)) (fun hc => (?_ : AW _ _ _ _)) | simp (disch := omega) only [go_sem, Nat.reduceLT, Nat.reduceAdd, Nat.reduceSub, Nat.reduceMul, Nat.reduceBEq, Nat.reduceEqDiff, Nat.reduceLeDiff, reduceCtorEq, ↓reduceIte, beq_dec, Int.reduceToNat, Int.reduceLT, Int.reduceLE, Int.reduceAdd, Int.reduceSub, Int.reduceMul, Int.reduceEq, Int.reduceNeg, Int.reduceNe, Int.toNat_natCast, IntKind.signed, IntKind.bits, Int.reducePow, Nat.reducePow, maxLen, getD_map (fun x : Int => [CD.I x]), hbl, List.length_take] | (refine And.intro ?_ ?_; focus (first | (intros; omega) | (intros; simp_all; done))) | refine And.intro (?_ : CallAt _ _ _ _ _ _ _ _) ?_ | fail))
        · refine .mk (j + 1) (by omega) (by omega) ?_
          have hxx := hx (by omega)
          simp (disch := omega) only [go_sem, Nat.reduceLT, Nat.reduceAdd, Nat.reduceSub, Nat.reduceMul, Nat.reduceBEq, Nat.reduceEqDiff, Nat.reduceLeDiff, reduceCtorEq, ↓reduceIte, beq_dec, Int.reduceToNat, Int.reduceLT, Int.reduceLE, Int.reduceAdd, Int.reduceSub, Int.reduceMul, Int.reduceEq, Int.reduceNeg, Int.reduceNe, Int.toNat_natCast, IntKind.signed, IntKind.bits, Int.reducePow, Nat.reducePow, Int.natCast_add, Int.natCast_one, getD_map (fun b : Bool => [CD.B b]), bset, inB_step n.toNat R j (by omega) (hx (by omega)).1]
        · refine .mk (i + 1) (by omega) (by omega) ?_
          have ej : R.take j = R := List.take_of_length_le (by omega)
          have e : t.take (i + 1) = t.take i ++ [R] := by rw [List.take_succ_eq_append_getElem (by omega), ← nth_eq t i (by omega), hR]
          simp (disch := omega) only [go_sem, Nat.reduceLT, Nat.reduceAdd, Nat.reduceSub, Nat.reduceMul, Nat.reduceBEq, Nat.reduceEqDiff, Nat.reduceLeDiff, reduceCtorEq, ↓reduceIte, beq_dec, Int.reduceToNat, Int.reduceLT, Int.reduceLE, Int.reduceAdd, Int.reduceSub, Int.reduceMul, Int.reduceEq, Int.reduceNeg, Int.reduceNe, Int.toNat_natCast, IntKind.signed, IntKind.bits, Int.reducePow, Nat.reducePow, Int.natCast_add, Int.natCast_one, e, ej, List.map_append]
end Go.Proofs.Ytjplkpppjlgheaa

