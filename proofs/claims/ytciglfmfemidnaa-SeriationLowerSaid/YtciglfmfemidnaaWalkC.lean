/-
  Lemmas for the proof: no statement of its own.
-/
import Derived.Test.YtciglfmfemidnaaIterA
import Derived.Test.YtciglfmfemidnaaPlainA
import Derived.Test.YtciglfmfemidnaaAlD
set_option linter.unusedVariables false
set_option linter.unusedSimpArgs false
-- P p_30s.txt
open Go Go.AL Go.RowKit
namespace Go.Proofs.Ytciglfmfemidnaa
set_option maxRecDepth 20000
/- coinage/consecutive.Runs -/
abbrev c19_1 : AC := .reg [⟨(some 6), .mv (.k (.c .nil)), none⟩,
  ⟨(some 7), .mv (.k (.I 0)), none⟩] false
abbrev c19_2 : AC := .reg [⟨(some 12), .mv (.t 0), none⟩,
  ⟨(some 13), .mv (.t 1), none⟩,
  ⟨(some 14), .mv (.t 2), none⟩,
  ⟨(some 15), .call 20 [(.t 12), (.t 13), (.t 14)], none⟩,
  ⟨(some 8), .mv (.t 15), none⟩] false
abbrev c19_3 : AC := .reg [⟨(some 16), .mv (.t 8), none⟩,
  ⟨(some 17), .bin .neq (.t 16) (.k (.I 0)), none⟩] false
abbrev c19_4 : AC := .reg [⟨(some 18), .mv (.t 8), none⟩,
  ⟨(some 6), .mv (.k (.c .nil)), none⟩,
  ⟨(some 7), .mv (.t 18), none⟩] false
abbrev c19_5 : AC := .seq c19_4 .ret
abbrev c19_6 : AC := .cond (.t 17) c19_5 .skip
abbrev c19_7 : AC := .seq c19_3 c19_6
abbrev c19_8 : AC := .seq c19_2 c19_7
abbrev c19_9 : AC := .reg [⟨(some 9), .mv (.k (.c .nil)), none⟩] false
abbrev c19_10 : AC := .reg [⟨(some 19), .mv (.t 1), none⟩,
  ⟨(some 20), .len (.t 19), none⟩,
  ⟨(some 21), .mv (.k (.I 0)), none⟩] false
abbrev c19_11 : AC := .reg [⟨(some 22), .bin .lss (.t 21) (.t 20), none⟩] false
abbrev c19_12 : AC := .cond (.t 22) .skip (.exit 0)
abbrev c19_13 : AC := .reg [⟨(some 23), .iad 1 (.t 19) (.t 21), none⟩,
  ⟨(some 24), .ld none (.t 23), none⟩,
  ⟨(some 11), .mv (.t 24), none⟩] false
abbrev c19_14 : AC := .reg [⟨(some 25), .mv (.t 9), none⟩,
  ⟨(some 26), .mv (.t 11), none⟩,
  ⟨(some 27), .mv (.t 2), none⟩,
  ⟨(some 28), .call 21 [(.t 26), (.t 27)], none⟩,
  ⟨(some 29), .bslice 3 1 [(.t 28)], none⟩,
  ⟨(some 30), .app 3 1 8 (.t 25) (.t 29), none⟩,
  ⟨(some 9), .mv (.t 30), none⟩] false
abbrev c19_15 : AC := .seq c19_13 c19_14
abbrev c19_16 : AC := .block 1 c19_15
abbrev c19_17 : AC := .reg [⟨(some 31), .bin .add (.t 21) (.k (.I 1)), none⟩,
  ⟨(some 21), .mv (.t 31), none⟩] false
abbrev c19_18 : AC := .seq c19_16 c19_17
abbrev c19_19 : AC := .seq c19_12 c19_18
abbrev c19_20 : AC := .seq c19_11 c19_19
abbrev c19_21 : AC := .loop c19_20
abbrev c19_22 : AC := .block 0 c19_21
abbrev c19_23 : AC := .seq c19_10 c19_22
abbrev c19_24 : AC := .reg [⟨(some 32), .mv (.t 9), none⟩,
  ⟨(some 6), .mv (.t 32), none⟩,
  ⟨(some 7), .mv (.k (.I 0)), none⟩] false
abbrev c19_25 : AC := .seq c19_24 .ret
abbrev c19_26 : AC := .seq c19_23 c19_25
abbrev c19_27 : AC := .seq c19_9 c19_26
abbrev c19_28 : AC := .seq c19_8 c19_27
abbrev c19_29 : AC := .seq c19_1 c19_28
abbrev c19 : AC := c19_29
theorem code19 : fnCode Try.prog 19 = some (c19, [6, 7], 33) := by kernel_rfl
/- coinage/consecutive.Gaps -/
abbrev c18_1 : AC := .reg [⟨(some 6), .mv (.k (.I 0)), none⟩,
  ⟨(some 7), .mv (.k (.I 0)), none⟩] false
abbrev c18_2 : AC := .reg [⟨(some 14), .mv (.t 0), none⟩,
  ⟨(some 15), .mv (.t 1), none⟩,
  ⟨(some 16), .mv (.t 2), none⟩,
  ⟨(some 17), .call 19 [(.t 14), (.t 15), (.t 16)], none⟩,
  ⟨(some 13), .mv (.t 17), none⟩,
  ⟨(some 18), .ext (.t 13) 0, none⟩,
  ⟨(some 19), .ext (.t 13) 1, none⟩,
  ⟨(some 8), .mv (.t 18), none⟩,
  ⟨(some 9), .mv (.t 19), none⟩] false
abbrev c18_3 : AC := .reg [⟨(some 10), .mv (.k (.I 0)), none⟩] false
abbrev c18_4 : AC := .reg [⟨(some 20), .mv (.t 8), none⟩,
  ⟨(some 21), .len (.t 20), none⟩,
  ⟨(some 22), .mv (.k (.I 0)), none⟩] false
abbrev c18_5 : AC := .reg [⟨(some 23), .bin .lss (.t 22) (.t 21), none⟩] false
abbrev c18_6 : AC := .cond (.t 23) .skip (.exit 0)
abbrev c18_7 : AC := .reg [⟨(some 24), .iad 1 (.t 20) (.t 22), none⟩,
  ⟨(some 25), .ld none (.t 24), none⟩,
  ⟨(some 12), .mv (.t 25), none⟩] false
abbrev c18_8 : AC := .reg [⟨(some 26), .mv (.t 10), none⟩,
  ⟨(some 27), .mv (.t 12), none⟩,
  ⟨(some 28), .bin .sub (.t 27) (.k (.I 1)), none⟩,
  ⟨(some 29), .minmax true (.t 28) (.k (.I 0)), none⟩,
  ⟨(some 30), .bin .add (.t 26) (.t 29), none⟩,
  ⟨(some 10), .mv (.t 30), none⟩] false
abbrev c18_9 : AC := .seq c18_7 c18_8
abbrev c18_10 : AC := .block 1 c18_9
abbrev c18_11 : AC := .reg [⟨(some 31), .bin .add (.t 22) (.k (.I 1)), none⟩,
  ⟨(some 22), .mv (.t 31), none⟩] false
abbrev c18_12 : AC := .seq c18_10 c18_11
abbrev c18_13 : AC := .seq c18_6 c18_12
abbrev c18_14 : AC := .seq c18_5 c18_13
abbrev c18_15 : AC := .loop c18_14
abbrev c18_16 : AC := .block 0 c18_15
abbrev c18_17 : AC := .seq c18_4 c18_16
abbrev c18_18 : AC := .reg [⟨(some 32), .mv (.t 10), none⟩,
  ⟨(some 33), .mv (.t 9), none⟩,
  ⟨(some 6), .mv (.t 32), none⟩,
  ⟨(some 7), .mv (.t 33), none⟩] false
abbrev c18_19 : AC := .seq c18_18 .ret
abbrev c18_20 : AC := .seq c18_17 c18_19
abbrev c18_21 : AC := .seq c18_3 c18_20
abbrev c18_22 : AC := .seq c18_2 c18_21
abbrev c18_23 : AC := .seq c18_1 c18_22
abbrev c18 : AC := c18_23
theorem code18 : fnCode Try.prog 18 = some (c18, [6, 7], 34) := by kernel_rfl
/- coinage/consecutive.check -/
abbrev c20_1 : AC := .reg [⟨(some 6), .mv (.k (.I 0)), none⟩] false
abbrev c20_2 : AC := .reg [⟨(some 8), .mv (.t 0), none⟩,
  ⟨(some 9), .mv (.t 1), none⟩,
  ⟨(some 10), .call 11 [(.t 8), (.t 9)], none⟩,
  ⟨(some 11), .not (.t 10), none⟩,
  ⟨(some 7), .mv (.t 11), none⟩] false
abbrev c20_3 : AC := .reg [⟨(some 6), .mv (.k (.I 1)), none⟩] false
abbrev c20_4 : AC := .seq c20_3 .ret
abbrev c20_5 : AC := .reg [⟨(some 13), .mv (.t 0), none⟩,
  ⟨(some 14), .mv (.t 2), none⟩,
  ⟨(some 15), .call 22 [(.t 13), (.t 14)], none⟩,
  ⟨(some 16), .not (.t 15), none⟩,
  ⟨(some 12), .mv (.t 16), none⟩] false
abbrev c20_6 : AC := .reg [⟨(some 6), .mv (.k (.I 2)), none⟩] false
abbrev c20_7 : AC := .seq c20_6 .ret
abbrev c20_8 : AC := .cond (.t 12) c20_7 .skip
abbrev c20_9 : AC := .seq c20_5 c20_8
abbrev c20_10 : AC := .cond (.t 7) c20_4 c20_9
abbrev c20_11 : AC := .seq c20_2 c20_10
abbrev c20_12 : AC := .block 0 c20_11
abbrev c20_13 : AC := .reg [⟨(some 6), .mv (.k (.I 0)), none⟩] false
abbrev c20_14 : AC := .seq c20_13 .ret
abbrev c20_15 : AC := .seq c20_12 c20_14
abbrev c20_16 : AC := .seq c20_1 c20_15
abbrev c20 : AC := c20_16
theorem code20 : fnCode Try.prog 20 = some (c20, [6], 17) := by kernel_rfl
/- coinage/consecutive.runs -/
abbrev c21_1 : AC := .reg [⟨(some 4), .mv (.k (.I 0)), none⟩] false
abbrev c21_2 : AC := .reg [⟨(some 5), .mv (.k (.I 0)), none⟩,
  ⟨(some 6), .mv (.k (.B false)), none⟩] false
abbrev c21_3 : AC := .reg [⟨(some 10), .mv (.t 1), none⟩,
  ⟨(some 11), .len (.t 10), none⟩,
  ⟨(some 12), .mv (.k (.I 0)), none⟩] false
abbrev c21_4 : AC := .reg [⟨(some 13), .bin .lss (.t 12) (.t 11), none⟩] false
abbrev c21_5 : AC := .cond (.t 13) .skip (.exit 0)
abbrev c21_6 : AC := .reg [⟨(some 14), .iad 1 (.t 10) (.t 12), none⟩,
  ⟨(some 15), .ld none (.t 14), none⟩,
  ⟨(some 8), .mv (.t 15), none⟩] false
abbrev c21_7 : AC := .reg [⟨(some 16), .mv (.t 0), none⟩,
  ⟨(some 17), .mv (.t 8), none⟩,
  ⟨(some 18), .call 23 [(.t 16), (.t 17)], none⟩,
  ⟨(some 9), .mv (.t 18), none⟩] false
abbrev c21_8 : AC := .reg [⟨(some 19), .mv (.t 9), none⟩,
  ⟨(some 20), .mv (.t 19), none⟩,
  ⟨(some 21), .mv (.t 6), (some (20, true))⟩,
  ⟨(some 22), .not (.t 21), (some (20, true))⟩,
  ⟨(some 23), .pick (.t 20) (.t 22) (.k (.B false)), none⟩] false
abbrev c21_9 : AC := .reg [⟨(some 24), .mv (.t 5), none⟩,
  ⟨(some 25), .bin .add (.t 24) (.k (.I 1)), none⟩,
  ⟨(some 5), .mv (.t 25), none⟩] false
abbrev c21_10 : AC := .cond (.t 23) c21_9 .skip
abbrev c21_11 : AC := .seq c21_8 c21_10
abbrev c21_12 : AC := .reg [⟨(some 26), .mv (.t 9), none⟩,
  ⟨(some 6), .mv (.t 26), none⟩] false
abbrev c21_13 : AC := .seq c21_11 c21_12
abbrev c21_14 : AC := .seq c21_7 c21_13
abbrev c21_15 : AC := .seq c21_6 c21_14
abbrev c21_16 : AC := .block 1 c21_15
abbrev c21_17 : AC := .reg [⟨(some 27), .bin .add (.t 12) (.k (.I 1)), none⟩,
  ⟨(some 12), .mv (.t 27), none⟩] false
abbrev c21_18 : AC := .seq c21_16 c21_17
abbrev c21_19 : AC := .seq c21_5 c21_18
abbrev c21_20 : AC := .seq c21_4 c21_19
abbrev c21_21 : AC := .loop c21_20
abbrev c21_22 : AC := .block 0 c21_21
abbrev c21_23 : AC := .seq c21_3 c21_22
abbrev c21_24 : AC := .reg [⟨(some 28), .mv (.t 5), none⟩,
  ⟨(some 4), .mv (.t 28), none⟩] false
abbrev c21_25 : AC := .seq c21_24 .ret
abbrev c21_26 : AC := .seq c21_23 c21_25
abbrev c21_27 : AC := .seq c21_2 c21_26
abbrev c21_28 : AC := .seq c21_1 c21_27
abbrev c21 : AC := c21_28
theorem code21 : fnCode Try.prog 21 = some (c21, [4], 29) := by kernel_rfl
/- coinage/consecutive.isOrder -/
abbrev c22_1 : AC := .reg [⟨(some 4), .mv (.k (.B false)), none⟩] false
abbrev c22_2 : AC := .reg [⟨(some 8), .mv (.t 1), none⟩,
  ⟨(some 9), .call 25 [(.t 8)], none⟩,
  ⟨(some 10), .call 24 [(.t 9)], none⟩,
  ⟨(some 5), .mv (.t 10), none⟩] false
abbrev c22_3 : AC := .reg [⟨(some 11), .mv (.t 5), none⟩,
  ⟨(some 12), .len (.t 11), none⟩,
  ⟨(some 13), .mv (.k (.I 0)), none⟩] false
abbrev c22_4 : AC := .reg [⟨(some 14), .bin .lss (.t 13) (.t 12), none⟩] false
abbrev c22_5 : AC := .cond (.t 14) .skip (.exit 0)
abbrev c22_6 : AC := .reg [⟨(some 15), .mv (.t 13), none⟩,
  ⟨(some 16), .iad 1 (.t 11) (.t 13), none⟩,
  ⟨(some 17), .ld none (.t 16), none⟩,
  ⟨(some 6), .mv (.t 15), none⟩,
  ⟨(some 7), .mv (.t 17), none⟩] false
abbrev c22_7 : AC := .reg [⟨(some 18), .mv (.t 7), none⟩,
  ⟨(some 19), .mv (.t 6), none⟩,
  ⟨(some 20), .bin .neq (.t 18) (.t 19), none⟩] false
abbrev c22_8 : AC := .reg [⟨(some 4), .mv (.k (.B false)), none⟩] false
abbrev c22_9 : AC := .seq c22_8 .ret
abbrev c22_10 : AC := .cond (.t 20) c22_9 .skip
abbrev c22_11 : AC := .seq c22_7 c22_10
abbrev c22_12 : AC := .seq c22_6 c22_11
abbrev c22_13 : AC := .block 1 c22_12
abbrev c22_14 : AC := .reg [⟨(some 21), .bin .add (.t 13) (.k (.I 1)), none⟩,
  ⟨(some 13), .mv (.t 21), none⟩] false
abbrev c22_15 : AC := .seq c22_13 c22_14
abbrev c22_16 : AC := .seq c22_5 c22_15
abbrev c22_17 : AC := .seq c22_4 c22_16
abbrev c22_18 : AC := .loop c22_17
abbrev c22_19 : AC := .block 0 c22_18
abbrev c22_20 : AC := .seq c22_3 c22_19
abbrev c22_21 : AC := .reg [⟨(some 22), .mv (.t 1), none⟩,
  ⟨(some 23), .len (.t 22), none⟩,
  ⟨(some 24), .mv (.t 0), none⟩,
  ⟨(some 25), .bin .eql (.t 23) (.t 24), none⟩,
  ⟨(some 4), .mv (.t 25), none⟩] false
abbrev c22_22 : AC := .seq c22_21 .ret
abbrev c22_23 : AC := .seq c22_20 c22_22
abbrev c22_24 : AC := .seq c22_2 c22_23
abbrev c22_25 : AC := .seq c22_1 c22_24
abbrev c22 : AC := c22_25
theorem code22 : fnCode Try.prog 22 = some (c22, [4], 26) := by kernel_rfl


/-! ### orders -/
abbrev srt (o : List Int) : List Int := o.mergeSort fun x y => decide (x ≤ y)
theorem srt_perm (o : List Int) : (srt o).Perm o := List.mergeSort_perm o _
theorem srt_len (o : List Int) : (srt o).length = o.length := (srt_perm o).length_eq
theorem srt_pw {o : List Int} (h : o.Nodup) : (srt o).Pairwise (· < ·) := by
  have h1 : (srt o).Pairwise (fun x y => decide (x ≤ y) = true) := List.pairwise_mergeSort (by simp; omega) (by simp; omega) o
  have h2 : (srt o).Nodup := ((srt_perm o).nodup_iff).2 h
  refine (List.Pairwise.and h1 h2).imp fun h => ?_
  simp at h
  omega
theorem isOrd_srt (o : List Int) (n : Int) : isOrd o n = decide ((o.length : Int) = n ∧ ∀ i, i < (srt o).length → nth (srt o) i = i) := by
  unfold isOrd
  rw [Bool.eq_iff_iff, decide_eq_true_eq, decide_eq_true_eq]
  refine and_congr_right fun hn => ?_
  constructor
  · intro h
    have hp : Pre o.length o := ⟨?_, fun x hx => ?_⟩
    · obtain ⟨h1, h2⟩ := pre_iff.1 ⟨hp, rfl⟩
      have e : srt o = upto o.length := pw_ext (srt_pw h1) (upto_pw _) fun x => ((srt_perm o).mem_iff).trans (h2 x)
      intro i hi
      rw [e, upto_nth (by rw [srt_len] at hi; exact hi)]
    · rw [List.nodup_iff_pairwise_ne, List.pairwise_iff_getElem]
      intro i j hi hj hij e
      refine (h j hj).2.2 i hij ?_
      rw [nth_eq o i hi, nth_eq o j hj, e]
    · obtain ⟨i, hi, rfl⟩ := List.getElem_of_mem hx
      have := h i hi
      rw [nth_eq o i hi] at this
      omega
  · intro h
    have e : srt o = upto o.length := nth_ext (by rw [srt_len, upto_len]) fun i hi => by
      rw [h i hi, upto_nth (by rw [srt_len] at hi; exact hi)]
    have hp : o.Perm (upto o.length) := e ▸ (srt_perm o).symm
    have hnd : o.Nodup := hp.nodup_iff.2 (pw_nodup (upto_pw _))
    intro i hi
    have := mem_upto.1 (hp.mem_iff.1 (nth_mem o i hi))
    refine ⟨this.1, by omega, fun k hk e => ?_⟩
    have := nth_inj hnd hi (by omega) e
    omega
theorem w40 (n : Int) (o : List Int) (hl : o.length ≤ 1000000) : FnR Try.prog 22 [.I n, .c (Row o)] [.c (.B (isOrd o n))] := by
  have gV := fvValues o
  have gS := fSorted o hl
  have hsl := srt_len o
  have hB : isOrd o n = true ↔ ((o.length : Int) = n ∧ ∀ i, i < (srt o).length → nth (srt o) i = i) := by rw [isOrd_srt, decide_eq_true_eq]
  simp only [srt] at hsl hB
  generalize (o.mergeSort fun x y => decide (x ≤ y)) = s at gS hsl hB
  refine fn_walk code22 (by simp) ?_
  (repeat' (first | refine NextAt.mk (fun hc => ?_) (fun pre n v post hc hkey => ?_) | refine Sni.mk (fun hc => ?_) ?_ | refine Both.mk ?_ ?_ | refine AW_seq ?_ | refine AW_block ?_ | ((first | refine AW_reg ?_ | refine AW_cond ?_ | refine AW_skip ?_ | refine AW_exit ?_ | refine AW_ret ?_ | refine AW_regD (by kernel_rfl) ?_ | refine AW_regX (by kernel_rfl) ?_ | refine CallAt.fv _ _ _ (gV ..) (by rfl) ?_ | refine CallAtG.t (Eq.refl true) ?_ | refine CallAtG.f (Eq.refl false) ?_ | refine CallAt.mk _ (gS ..) (by first | (intro h; cases h; done) | (intro _; repeat' (first | exact List.forall_mem_nil _ | trivial | refine List.forall_mem_cons.2 ⟨?_, ?_⟩)) | (intro _; simp [RV.flatP, CD.flatP]; done)) ?_ | refine CallAtG.mk _ (fun _ => gS ..) ?_ | refine CallDS.mk _ (by simp [RV.data]) (fun _ => gS ..) (by first | (intro h; cases h; done) | (intro _; repeat' (first | exact List.forall_mem_nil _ | trivial | refine List.forall_mem_cons.2 ⟨?_, ?_⟩)) | (intro _; simp [RV.flatP, CD.flatP]; done)) ?_); try simp (disch := omega) only [go_sem, seval, reduceCtorEq, ↓reduceIte, beq_dec, Int.toNat_natCast, IntKind.signed, IntKind.bits]) | refine And.intro (fun hc => (?_ : AW _ _ _ _)) (fun hc => (?_ : AW _ _ _ _)) | simp (disch := omega) only [go_sem, seval, reduceCtorEq, ↓reduceIte, beq_dec, Int.toNat_natCast, IntKind.signed, IntKind.bits] | (refine And.intro ?_ ?_; focus (first | (intros; omega) | (intros; simp_all; done))) | refine And.intro (?_ : CallAt _ _ _ _ _ _ _ _) ?_ | refine And.intro (?_ : CallAt _ _ _ _ _ _ _ _ ∧ _) ?_ | refine And.intro (?_ : AW _ _ _ _) ?_ | fail))
  refine AW_loopK [0, 1, 11, 12] [4, 6, 7, 13, 14, 15, 16, 17, 18, 19, 20, 21] (fun i : Nat => i ≤ s.length ∧ ∀ j, j < i → nth s j = j) (fun i => [(13, .I i)]) (fun _ => []) (fun i => s.length - i) 0 ⟨by omega, by omega⟩ ?_ ?_
  · simp (disch := omega) only [go_sem, seval, reduceCtorEq, ↓reduceIte, beq_dec, Int.toNat_natCast, IntKind.signed, IntKind.bits, Int.natCast_zero]
  · rintro i ⟨hi, hb⟩
    (repeat' (first | refine NextAt.mk (fun hc => ?_) (fun pre n v post hc hkey => ?_) | refine Sni.mk (fun hc => ?_) ?_ | refine Both.mk ?_ ?_ | refine AW_seq ?_ | refine AW_block ?_ | ((first | refine AW_reg ?_ | refine AW_cond ?_ | refine AW_skip ?_ | refine AW_exit ?_ | refine AW_ret ?_ | refine AW_regD (by kernel_rfl) ?_ | refine AW_regX (by kernel_rfl) ?_ | refine CallAtG.t (Eq.refl true) ?_ | refine CallAtG.f (Eq.refl false) ?_); try simp (disch := omega) only [go_sem, seval, reduceCtorEq, ↓reduceIte, beq_dec, Int.toNat_natCast, IntKind.signed, IntKind.bits, getD_map (fun x : Int => [CD.I x])]) | refine And.intro (fun hc => (?_ : AW _ _ _ _)) (fun hc => (?_ : AW _ _ _ _)) | simp (disch := omega) only [go_sem, seval, reduceCtorEq, ↓reduceIte, beq_dec, Int.toNat_natCast, IntKind.signed, IntKind.bits, getD_map (fun x : Int => [CD.I x])] | (refine And.intro ?_ ?_; focus (first | (intros; omega) | (intros; simp_all; done))) | refine And.intro (?_ : CallAt _ _ _ _ _ _ _ _) ?_ | refine And.intro (?_ : CallAt _ _ _ _ _ _ _ _ ∧ _) ?_ | refine And.intro (?_ : AW _ _ _ _) ?_ | fail))
    · symm
      rw [← Bool.not_eq_true, hB]
      exact fun h => absurd (h.2 i (by omega)) (by omega)
    · refine .mk (i + 1) ⟨by omega, step_lt hb (by omega)⟩ (by omega) ?_
      simp (disch := omega) only [go_sem, seval, reduceCtorEq, ↓reduceIte, beq_dec, Int.toNat_natCast, IntKind.signed, IntKind.bits, Int.natCast_add, Int.natCast_one]
    · rw [Bool.eq_iff_iff, decide_eq_true_eq, hB]
      exact ⟨fun h => ⟨h, fun j hj => hb j (by omega)⟩, fun h => h.1⟩
/-! ### runs -/
def bef (row order : List Int) (i : Nat) : Bool := decide (0 < i ∧ nth order (i - 1) ∈ row)
theorem w34 (row order : List Int) : FnR Try.prog 21 [.c (Row row), .c (Row order)] [.c (.I (runsN row order order.length : Nat))] := by
  refine FnR_len (pre := [.c (Row row)]) (post := []) (fnCode_callB code21) fun hl => ?_
  simp only [List.length_map, maxLen] at hl
  refine fn_walk code21 (by simp) ?_
  (repeat' (first | refine NextAt.mk (fun hc => ?_) (fun pre n v post hc hkey => ?_) | refine Sni.mk (fun hc => ?_) ?_ | refine Both.mk ?_ ?_ | refine AW_seq ?_ | refine AW_block ?_ | ((first | refine AW_reg ?_ | refine AW_cond ?_ | refine AW_skip ?_ | refine AW_exit ?_ | refine AW_ret ?_ | refine AW_regD (by kernel_rfl) ?_ | refine AW_regX (by kernel_rfl) ?_ | refine CallAtG.t (Eq.refl true) ?_ | refine CallAtG.f (Eq.refl false) ?_); try simp (disch := omega) only [go_sem, seval, reduceCtorEq, ↓reduceIte, beq_dec, Int.toNat_natCast, IntKind.signed, IntKind.bits]) | refine And.intro (fun hc => (?_ : AW _ _ _ _)) (fun hc => (?_ : AW _ _ _ _)) | simp (disch := omega) only [go_sem, seval, reduceCtorEq, ↓reduceIte, beq_dec, Int.toNat_natCast, IntKind.signed, IntKind.bits] | (refine And.intro ?_ ?_; focus (first | (intros; omega) | (intros; simp_all; done))) | refine And.intro (?_ : CallAt _ _ _ _ _ _ _ _) ?_ | refine And.intro (?_ : CallAt _ _ _ _ _ _ _ _ ∧ _) ?_ | refine And.intro (?_ : AW _ _ _ _) ?_ | fail))
  refine AW_loopK [0, 10, 11] [5, 6, 8, 9, 12, 13, 14, 15, 16, 17, 18, 19, 20, 21, 22, 23, 24, 25, 26, 27] (fun i : Nat => i ≤ order.length) (fun i => [(12, .I i), (5, .I (runsN row order i : Nat)), (6, .B (bef row order i))]) (fun _ => []) (fun i => order.length - i) 0 (by omega) ?_ ?_
  · simp (disch := omega) only [go_sem, seval, reduceCtorEq, ↓reduceIte, beq_dec, Int.toNat_natCast, IntKind.signed, IntKind.bits, Int.natCast_zero, runsN]
    simp [bef]
  · rintro i hi
    have hrl := runsN_le row order i
    have hb1 : bef row order (i + 1) = decide (nth order i ∈ row) := by simp [bef]
    cases hbi : bef row order i with
    | true =>
      have hb := of_decide_eq_true hbi
      have e : runsN row order (i + 1) = runsN row order i := by
        simp only [runsN]
        rw [if_neg fun h => h.2.elim (fun h => by omega) (fun h => h hb.2)]
        rfl
      (repeat' (first | refine NextAt.mk (fun hc => ?_) (fun pre n v post hc hkey => ?_) | refine Sni.mk (fun hc => ?_) ?_ | refine Both.mk ?_ ?_ | refine AW_seq ?_ | refine AW_block ?_ | ((first | refine AW_reg ?_ | refine AW_cond ?_ | refine AW_skip ?_ | refine AW_exit ?_ | refine AW_ret ?_ | refine AW_regD (by kernel_rfl) ?_ | refine AW_regX (by kernel_rfl) ?_ | refine CallAtG.t (Eq.refl true) ?_ | refine CallAtG.f (Eq.refl false) ?_ | refine CallAt.mk _ (f116 ..) (by first | (intro h; cases h; done) | (intro _; repeat' (first | exact List.forall_mem_nil _ | trivial | refine List.forall_mem_cons.2 ⟨?_, ?_⟩)) | (intro _; simp [RV.flatP, CD.flatP, getD_map (fun x : Int => [CD.I x])]; done)) ?_ | refine CallAtG.mk _ (fun _ => f116 ..) ?_ | refine CallDS.mk _ (by simp [RV.data]) (fun _ => f116 ..) (by first | (intro h; cases h; done) | (intro _; repeat' (first | exact List.forall_mem_nil _ | trivial | refine List.forall_mem_cons.2 ⟨?_, ?_⟩)) | (intro _; simp [RV.flatP, CD.flatP, getD_map (fun x : Int => [CD.I x])]; done)) ?_); try simp (disch := omega) only [go_sem, seval, reduceCtorEq, ↓reduceIte, beq_dec, Int.toNat_natCast, IntKind.signed, IntKind.bits, getD_map (fun x : Int => [CD.I x])]) | refine And.intro (fun hc => (?_ : AW _ _ _ _)) (fun hc => (?_ : AW _ _ _ _)) | simp (disch := omega) only [go_sem, seval, reduceCtorEq, ↓reduceIte, beq_dec, Int.toNat_natCast, IntKind.signed, IntKind.bits, getD_map (fun x : Int => [CD.I x])] | (refine And.intro ?_ ?_; focus (first | (intros; omega) | (intros; simp_all; done))) | refine And.intro (?_ : CallAt _ _ _ _ _ _ _ _) ?_ | refine And.intro (?_ : CallAt _ _ _ _ _ _ _ _ ∧ _) ?_ | refine And.intro (?_ : AW _ _ _ _) ?_ | fail))
      · refine .mk (i + 1) (by omega) (by omega) ?_
        simp (disch := omega) only [go_sem, seval, reduceCtorEq, ↓reduceIte, beq_dec, Int.toNat_natCast, IntKind.signed, IntKind.bits, Int.natCast_add, Int.natCast_one, e, hb1]
      · rw [show order.length = i by omega]
    | false =>
      have hb := of_decide_eq_false hbi
      (repeat' (first | refine NextAt.mk (fun hc => ?_) (fun pre n v post hc hkey => ?_) | refine Sni.mk (fun hc => ?_) ?_ | refine Both.mk ?_ ?_ | refine AW_seq ?_ | refine AW_block ?_ | ((first | refine AW_reg ?_ | refine AW_cond ?_ | refine AW_skip ?_ | refine AW_exit ?_ | refine AW_ret ?_ | refine AW_regD (by kernel_rfl) ?_ | refine AW_regX (by kernel_rfl) ?_ | refine CallAtG.t (Eq.refl true) ?_ | refine CallAtG.f (Eq.refl false) ?_ | refine CallAt.mk _ (f116 ..) (by first | (intro h; cases h; done) | (intro _; repeat' (first | exact List.forall_mem_nil _ | trivial | refine List.forall_mem_cons.2 ⟨?_, ?_⟩)) | (intro _; simp [RV.flatP, CD.flatP, getD_map (fun x : Int => [CD.I x])]; done)) ?_ | refine CallAtG.mk _ (fun _ => f116 ..) ?_ | refine CallDS.mk _ (by simp [RV.data]) (fun _ => f116 ..) (by first | (intro h; cases h; done) | (intro _; repeat' (first | exact List.forall_mem_nil _ | trivial | refine List.forall_mem_cons.2 ⟨?_, ?_⟩)) | (intro _; simp [RV.flatP, CD.flatP, getD_map (fun x : Int => [CD.I x])]; done)) ?_); try simp (disch := omega) only [go_sem, seval, reduceCtorEq, ↓reduceIte, beq_dec, Int.toNat_natCast, IntKind.signed, IntKind.bits, getD_map (fun x : Int => [CD.I x])]) | refine And.intro (fun hc => (?_ : AW _ _ _ _)) (fun hc => (?_ : AW _ _ _ _)) | simp (disch := omega) only [go_sem, seval, reduceCtorEq, ↓reduceIte, beq_dec, Int.toNat_natCast, IntKind.signed, IntKind.bits, getD_map (fun x : Int => [CD.I x])] | (refine And.intro ?_ ?_; focus (first | (intros; omega) | (intros; simp_all; done))) | refine And.intro (?_ : CallAt _ _ _ _ _ _ _ _) ?_ | refine And.intro (?_ : CallAt _ _ _ _ _ _ _ _ ∧ _) ?_ | refine And.intro (?_ : AW _ _ _ _) ?_ | fail))
      · refine .mk (i + 1) (by omega) (by omega) ?_
        have e : runsN row order (i + 1) = runsN row order i + 1 := by
          simp only [runsN]
          rw [if_pos]
          refine ⟨by assumption, ?_⟩
          by_cases h0 : i = 0
          · exact .inl h0
          · exact .inr fun h => hb ⟨by omega, h⟩
        simp (disch := omega) only [go_sem, seval, reduceCtorEq, ↓reduceIte, beq_dec, Int.toNat_natCast, IntKind.signed, IntKind.bits, Int.natCast_add, Int.natCast_one, e, hb1]
      · refine .mk (i + 1) (by omega) (by omega) ?_
        have e : runsN row order (i + 1) = runsN row order i := by
          simp only [runsN]
          rw [if_neg fun h => absurd h.1 (by assumption)]
          rfl
        simp (disch := omega) only [go_sem, seval, reduceCtorEq, ↓reduceIte, beq_dec, Int.toNat_natCast, IntKind.signed, IntKind.bits, Int.natCast_add, Int.natCast_one, e, hb1]
      · rw [show order.length = i by omega]
theorem w33 (n : Int) (t : List (List Int)) (o : List Int) (hl : o.length ≤ 1000000) : FnR Try.prog 20 [.I n, .c (Tab t), .c (Row o)] [.c (.I (runErr n t o))] := by
  have g40 := w40 n o hl
  refine fn_walk code20 (by simp) ?_
  unfold runErr
  cases hv : validT n t with
  | false =>
    have g38 := f38 n t
    rw [hv] at g38
    (repeat' (first | refine NextAt.mk (fun hc => ?_) (fun pre n v post hc hkey => ?_) | refine Sni.mk (fun hc => ?_) ?_ | refine Both.mk ?_ ?_ | refine AW_seq ?_ | refine AW_block ?_ | ((first | refine AW_reg ?_ | refine AW_cond ?_ | refine AW_skip ?_ | refine AW_exit ?_ | refine AW_ret ?_ | refine AW_regD (by kernel_rfl) ?_ | refine AW_regX (by kernel_rfl) ?_ | refine CallAtG.t (Eq.refl true) ?_ | refine CallAtG.f (Eq.refl false) ?_ | refine CallAt.mk _ (g38 ..) (by first | (intro h; cases h; done) | (intro _; repeat' (first | exact List.forall_mem_nil _ | trivial | refine List.forall_mem_cons.2 ⟨?_, ?_⟩)) | (intro _; simp [RV.flatP, CD.flatP]; done)) ?_ | refine CallAtG.mk _ (fun _ => g38 ..) ?_ | refine CallDS.mk _ (by simp [RV.data]) (fun _ => g38 ..) (by first | (intro h; cases h; done) | (intro _; repeat' (first | exact List.forall_mem_nil _ | trivial | refine List.forall_mem_cons.2 ⟨?_, ?_⟩)) | (intro _; simp [RV.flatP, CD.flatP]; done)) ?_ | refine CallAt.mk _ (g40 ..) (by first | (intro h; cases h; done) | (intro _; repeat' (first | exact List.forall_mem_nil _ | trivial | refine List.forall_mem_cons.2 ⟨?_, ?_⟩)) | (intro _; simp [RV.flatP, CD.flatP]; done)) ?_ | refine CallAtG.mk _ (fun _ => g40 ..) ?_ | refine CallDS.mk _ (by simp [RV.data]) (fun _ => g40 ..) (by first | (intro h; cases h; done) | (intro _; repeat' (first | exact List.forall_mem_nil _ | trivial | refine List.forall_mem_cons.2 ⟨?_, ?_⟩)) | (intro _; simp [RV.flatP, CD.flatP]; done)) ?_); try simp (disch := omega) only [go_sem, seval, reduceCtorEq, ↓reduceIte, beq_dec, Int.toNat_natCast, IntKind.signed, IntKind.bits]) | refine And.intro (fun hc => (?_ : AW _ _ _ _)) (fun hc => (?_ : AW _ _ _ _)) | simp (disch := omega) only [go_sem, seval, reduceCtorEq, ↓reduceIte, beq_dec, Int.toNat_natCast, IntKind.signed, IntKind.bits] | (refine And.intro ?_ ?_; focus (first | (intros; omega) | (intros; simp_all; done))) | refine And.intro (?_ : CallAt _ _ _ _ _ _ _ _) ?_ | refine And.intro (?_ : CallAt _ _ _ _ _ _ _ _ ∧ _) ?_ | refine And.intro (?_ : AW _ _ _ _) ?_ | fail))
  | true =>
    have g38 := f38 n t
    rw [hv] at g38
    cases ho : isOrd o n with
    | false =>
      rw [ho] at g40
      (repeat' (first | refine NextAt.mk (fun hc => ?_) (fun pre n v post hc hkey => ?_) | refine Sni.mk (fun hc => ?_) ?_ | refine Both.mk ?_ ?_ | refine AW_seq ?_ | refine AW_block ?_ | ((first | refine AW_reg ?_ | refine AW_cond ?_ | refine AW_skip ?_ | refine AW_exit ?_ | refine AW_ret ?_ | refine AW_regD (by kernel_rfl) ?_ | refine AW_regX (by kernel_rfl) ?_ | refine CallAtG.t (Eq.refl true) ?_ | refine CallAtG.f (Eq.refl false) ?_ | refine CallAt.mk _ (g38 ..) (by first | (intro h; cases h; done) | (intro _; repeat' (first | exact List.forall_mem_nil _ | trivial | refine List.forall_mem_cons.2 ⟨?_, ?_⟩)) | (intro _; simp [RV.flatP, CD.flatP]; done)) ?_ | refine CallAtG.mk _ (fun _ => g38 ..) ?_ | refine CallDS.mk _ (by simp [RV.data]) (fun _ => g38 ..) (by first | (intro h; cases h; done) | (intro _; repeat' (first | exact List.forall_mem_nil _ | trivial | refine List.forall_mem_cons.2 ⟨?_, ?_⟩)) | (intro _; simp [RV.flatP, CD.flatP]; done)) ?_ | refine CallAt.mk _ (g40 ..) (by first | (intro h; cases h; done) | (intro _; repeat' (first | exact List.forall_mem_nil _ | trivial | refine List.forall_mem_cons.2 ⟨?_, ?_⟩)) | (intro _; simp [RV.flatP, CD.flatP]; done)) ?_ | refine CallAtG.mk _ (fun _ => g40 ..) ?_ | refine CallDS.mk _ (by simp [RV.data]) (fun _ => g40 ..) (by first | (intro h; cases h; done) | (intro _; repeat' (first | exact List.forall_mem_nil _ | trivial | refine List.forall_mem_cons.2 ⟨?_, ?_⟩)) | (intro _; simp [RV.flatP, CD.flatP]; done)) ?_); try simp (disch := omega) only [go_sem, seval, reduceCtorEq, ↓reduceIte, beq_dec, Int.toNat_natCast, IntKind.signed, IntKind.bits]) | refine And.intro (fun hc => (?_ : AW _ _ _ _)) (fun hc => (?_ : AW _ _ _ _)) | simp (disch := omega) only [go_sem, seval, reduceCtorEq, ↓reduceIte, beq_dec, Int.toNat_natCast, IntKind.signed, IntKind.bits] | (refine And.intro ?_ ?_; focus (first | (intros; omega) | (intros; simp_all; done))) | refine And.intro (?_ : CallAt _ _ _ _ _ _ _ _) ?_ | refine And.intro (?_ : CallAt _ _ _ _ _ _ _ _ ∧ _) ?_ | refine And.intro (?_ : AW _ _ _ _) ?_ | fail))
    | true =>
      rw [ho] at g40
      (repeat' (first | refine NextAt.mk (fun hc => ?_) (fun pre n v post hc hkey => ?_) | refine Sni.mk (fun hc => ?_) ?_ | refine Both.mk ?_ ?_ | refine AW_seq ?_ | refine AW_block ?_ | ((first | refine AW_reg ?_ | refine AW_cond ?_ | refine AW_skip ?_ | refine AW_exit ?_ | refine AW_ret ?_ | refine AW_regD (by kernel_rfl) ?_ | refine AW_regX (by kernel_rfl) ?_ | refine CallAtG.t (Eq.refl true) ?_ | refine CallAtG.f (Eq.refl false) ?_ | refine CallAt.mk _ (g38 ..) (by first | (intro h; cases h; done) | (intro _; repeat' (first | exact List.forall_mem_nil _ | trivial | refine List.forall_mem_cons.2 ⟨?_, ?_⟩)) | (intro _; simp [RV.flatP, CD.flatP]; done)) ?_ | refine CallAtG.mk _ (fun _ => g38 ..) ?_ | refine CallDS.mk _ (by simp [RV.data]) (fun _ => g38 ..) (by first | (intro h; cases h; done) | (intro _; repeat' (first | exact List.forall_mem_nil _ | trivial | refine List.forall_mem_cons.2 ⟨?_, ?_⟩)) | (intro _; simp [RV.flatP, CD.flatP]; done)) ?_ | refine CallAt.mk _ (g40 ..) (by first | (intro h; cases h; done) | (intro _; repeat' (first | exact List.forall_mem_nil _ | trivial | refine List.forall_mem_cons.2 ⟨?_, ?_⟩)) | (intro _; simp [RV.flatP, CD.flatP]; done)) ?_ | refine CallAtG.mk _ (fun _ => g40 ..) ?_ | refine CallDS.mk _ (by simp [RV.data]) (fun _ => g40 ..) (by first | (intro h; cases h; done) | (intro _; repeat' (first | exact List.forall_mem_nil _ | trivial | refine List.forall_mem_cons.2 ⟨?_, ?_⟩)) | (intro _; simp [RV.flatP, CD.flatP]; done)) ?_); try simp (disch := omega) only [go_sem, seval, reduceCtorEq, ↓reduceIte, beq_dec, Int.toNat_natCast, IntKind.signed, IntKind.bits]) | refine And.intro (fun hc => (?_ : AW _ _ _ _)) (fun hc => (?_ : AW _ _ _ _)) | simp (disch := omega) only [go_sem, seval, reduceCtorEq, ↓reduceIte, beq_dec, Int.toNat_natCast, IntKind.signed, IntKind.bits] | (refine And.intro ?_ ?_; focus (first | (intros; omega) | (intros; simp_all; done))) | refine And.intro (?_ : CallAt _ _ _ _ _ _ _ _) ?_ | refine And.intro (?_ : CallAt _ _ _ _ _ _ _ _ ∧ _) ?_ | refine And.intro (?_ : AW _ _ _ _) ?_ | fail))
theorem w19 (n : Int) (t : List (List Int)) (o : List Int) (hl : o.length ≤ 1000000) : FnR Try.prog 19 [.I n, .c (Tab t), .c (Row o)] [ORow (runsL n t o), .c (.I (runErr n t o))] := by
  have g33 := w33 n t o hl
  refine fn_walk code19 (by simp) ?_
  unfold runsL
  by_cases hr : runErr n t o = 0
  case neg =>
    simp only [if_neg hr]
    generalize runErr n t o = e at g33 hr
    (repeat' (first | refine NextAt.mk (fun hc => ?_) (fun pre n v post hc hkey => ?_) | refine Sni.mk (fun hc => ?_) ?_ | refine Both.mk ?_ ?_ | refine AW_seq ?_ | refine AW_block ?_ | ((first | refine AW_reg ?_ | refine AW_cond ?_ | refine AW_skip ?_ | refine AW_exit ?_ | refine AW_ret ?_ | refine AW_regD (by kernel_rfl) ?_ | refine AW_regX (by kernel_rfl) ?_ | refine CallAtG.t (Eq.refl true) ?_ | refine CallAtG.f (Eq.refl false) ?_ | refine CallAt.mk _ (g33 ..) (by first | (intro h; cases h; done) | (intro _; repeat' (first | exact List.forall_mem_nil _ | trivial | refine List.forall_mem_cons.2 ⟨?_, ?_⟩)) | (intro _; simp [RV.flatP, CD.flatP]; done)) ?_ | refine CallAtG.mk _ (fun _ => g33 ..) ?_ | refine CallDS.mk _ (by simp [RV.data]) (fun _ => g33 ..) (by first | (intro h; cases h; done) | (intro _; repeat' (first | exact List.forall_mem_nil _ | trivial | refine List.forall_mem_cons.2 ⟨?_, ?_⟩)) | (intro _; simp [RV.flatP, CD.flatP]; done)) ?_); try simp (disch := omega) only [go_sem, seval, reduceCtorEq, ↓reduceIte, beq_dec, Int.toNat_natCast, IntKind.signed, IntKind.bits]) | refine And.intro (fun hc => (?_ : AW _ _ _ _)) (fun hc => (?_ : AW _ _ _ _)) | simp (disch := omega) only [go_sem, seval, reduceCtorEq, ↓reduceIte, beq_dec, Int.toNat_natCast, IntKind.signed, IntKind.bits] | (refine And.intro ?_ ?_; focus (first | (intros; omega) | (intros; simp_all; done))) | refine And.intro (?_ : CallAt _ _ _ _ _ _ _ _) ?_ | refine And.intro (?_ : CallAt _ _ _ _ _ _ _ _ ∧ _) ?_ | refine And.intro (?_ : AW _ _ _ _) ?_ | fail))
    exact absurd (by assumption) hr
  case pos =>
    rw [hr] at g33
    simp only [hr, if_true]
    have ht : t.length ≤ 16 := by
      unfold runErr at hr
      split at hr
      · omega
      · rename_i hv
        exact (validT_of (by simpa using hv)).2.2.1
    (repeat' (first | refine NextAt.mk (fun hc => ?_) (fun pre n v post hc hkey => ?_) | refine Sni.mk (fun hc => ?_) ?_ | refine Both.mk ?_ ?_ | refine AW_seq ?_ | refine AW_block ?_ | ((first | refine AW_reg ?_ | refine AW_cond ?_ | refine AW_skip ?_ | refine AW_exit ?_ | refine AW_ret ?_ | refine AW_regD (by kernel_rfl) ?_ | refine AW_regX (by kernel_rfl) ?_ | refine CallAtG.t (Eq.refl true) ?_ | refine CallAtG.f (Eq.refl false) ?_ | refine CallAt.mk _ (g33 ..) (by first | (intro h; cases h; done) | (intro _; repeat' (first | exact List.forall_mem_nil _ | trivial | refine List.forall_mem_cons.2 ⟨?_, ?_⟩)) | (intro _; simp [RV.flatP, CD.flatP]; done)) ?_ | refine CallAtG.mk _ (fun _ => g33 ..) ?_ | refine CallDS.mk _ (by simp [RV.data]) (fun _ => g33 ..) (by first | (intro h; cases h; done) | (intro _; repeat' (first | exact List.forall_mem_nil _ | trivial | refine List.forall_mem_cons.2 ⟨?_, ?_⟩)) | (intro _; simp [RV.flatP, CD.flatP]; done)) ?_); try simp (disch := omega) only [go_sem, seval, reduceCtorEq, ↓reduceIte, beq_dec, Int.toNat_natCast, IntKind.signed, IntKind.bits]) | refine And.intro (fun hc => (?_ : AW _ _ _ _)) (fun hc => (?_ : AW _ _ _ _)) | simp (disch := omega) only [go_sem, seval, reduceCtorEq, ↓reduceIte, beq_dec, Int.toNat_natCast, IntKind.signed, IntKind.bits] | (refine And.intro ?_ ?_; focus (first | (intros; omega) | (intros; simp_all; done))) | refine And.intro (?_ : CallAt _ _ _ _ _ _ _ _) ?_ | refine And.intro (?_ : CallAt _ _ _ _ _ _ _ _ ∧ _) ?_ | refine And.intro (?_ : AW _ _ _ _) ?_ | fail))
    refine AW_nil 9 900 3 1 (by rfl) ?_
    refine AW_loopK [2, 19, 20] [9, 11, 21, 22, 23, 24, 25, 26, 27, 28, 29, 30, 31] (fun i : Nat => i ≤ t.length) (fun i => [(21, .I i), (9, .own 900)]) (fun i => [(900, .arr 3 1 (((t.take i).map fun r => ((runsN r o o.length : Nat) : Int)).map fun x => [CD.I x]))]) (fun i => t.length - i) 0 (by omega) ?_ ?_
    · simp (disch := omega) only [go_sem, seval, reduceCtorEq, ↓reduceIte, beq_dec, Int.toNat_natCast, IntKind.signed, IntKind.bits, Int.natCast_zero, List.take_zero, List.map_nil]
    · rintro i hi
      (repeat' (first | refine NextAt.mk (fun hc => ?_) (fun pre n v post hc hkey => ?_) | refine Sni.mk (fun hc => ?_) ?_ | refine Both.mk ?_ ?_ | refine AW_seq ?_ | refine AW_block ?_ | ((first | refine AW_reg ?_ | refine AW_cond ?_ | refine AW_skip ?_ | refine AW_exit ?_ | refine AW_ret ?_ | refine AW_regD (by kernel_rfl) ?_ | refine AW_regX (by kernel_rfl) ?_ | refine CallAtG.t (Eq.refl true) ?_ | refine CallAtG.f (Eq.refl false) ?_ | refine CallAt.mk _ (w34 ..) (by first | (intro h; cases h; done) | (intro _; repeat' (first | exact List.forall_mem_nil _ | trivial | refine List.forall_mem_cons.2 ⟨?_, ?_⟩)) | (intro _; simp [RV.flatP, CD.flatP, maxLen, getD_map (fun r : List Int => [Row r]), List.length_take]; done)) ?_ | refine CallAtG.mk _ (fun _ => w34 ..) ?_ | refine CallDS.mk _ (by simp [RV.data]) (fun _ => w34 ..) (by first | (intro h; cases h; done) | (intro _; repeat' (first | exact List.forall_mem_nil _ | trivial | refine List.forall_mem_cons.2 ⟨?_, ?_⟩)) | (intro _; simp [RV.flatP, CD.flatP, maxLen, getD_map (fun r : List Int => [Row r]), List.length_take]; done)) ?_); try simp (disch := omega) only [go_sem, seval, reduceCtorEq, ↓reduceIte, beq_dec, Int.toNat_natCast, IntKind.signed, IntKind.bits, maxLen, getD_map (fun r : List Int => [Row r]), List.length_take]) | refine And.intro (fun hc => (?_ : AW _ _ _ _)) (fun hc => (?_ : AW _ _ _ _)) | simp (disch := omega) only [go_sem, seval, reduceCtorEq, ↓reduceIte, beq_dec, Int.toNat_natCast, IntKind.signed, IntKind.bits, maxLen, getD_map (fun r : List Int => [Row r]), List.length_take] | (refine And.intro ?_ ?_; focus (first | (intros; omega) | (intros; simp_all; done))) | refine And.intro (?_ : CallAt _ _ _ _ _ _ _ _) ?_ | refine And.intro (?_ : CallAt _ _ _ _ _ _ _ _ ∧ _) ?_ | refine And.intro (?_ : AW _ _ _ _) ?_ | fail))
      · refine .mk (i + 1) (by omega) (by omega) ?_
        have e : t.take (i + 1) = t.take i ++ [nth t i] := by rw [List.take_succ_eq_append_getElem (by omega), nth_eq t i (by omega)]
        simp (disch := omega) only [go_sem, seval, reduceCtorEq, ↓reduceIte, beq_dec, Int.toNat_natCast, IntKind.signed, IntKind.bits, Int.natCast_add, Int.natCast_one, e, List.map_append]
      · rw [show i = t.length by omega, List.take_length]
theorem w20 (n : Int) (t : List (List Int)) (o : List Int) (hl : o.length ≤ 1000000) : FnR Try.prog 18 [.I n, .c (Tab t), .c (Row o)] [.c (.I (gapsV n t o)), .c (.I (runErr n t o))] := by
  have g19 := w19 n t o hl
  refine fn_walk code18 (by simp) ?_
  obtain ⟨q1, q2⟩ := runsL_len n t o
  have hg := gapN_le (l := runsL n t o) (fun x hx => by have := q2 x hx; omega)
  unfold gapsV
  (repeat' (first | refine NextAt.mk (fun hc => ?_) (fun pre n v post hc hkey => ?_) | refine Sni.mk (fun hc => ?_) ?_ | refine Both.mk ?_ ?_ | refine AW_seq ?_ | refine AW_block ?_ | ((first | refine AW_reg ?_ | refine AW_cond ?_ | refine AW_skip ?_ | refine AW_exit ?_ | refine AW_ret ?_ | refine AW_regD (by kernel_rfl) ?_ | refine AW_regX (by kernel_rfl) ?_ | refine CallAtG.t (Eq.refl true) ?_ | refine CallAtG.f (Eq.refl false) ?_ | refine CallAt.mk _ (g19 ..) (by first | (intro h; cases h; done) | (intro _; repeat' (first | exact List.forall_mem_nil _ | trivial | refine List.forall_mem_cons.2 ⟨?_, ?_⟩)) | (intro _; simp [RV.flatP, CD.flatP]; done)) ?_ | refine CallAtG.mk _ (fun _ => g19 ..) ?_ | refine CallDS.mk _ (by simp [RV.data]) (fun _ => g19 ..) (by first | (intro h; cases h; done) | (intro _; repeat' (first | exact List.forall_mem_nil _ | trivial | refine List.forall_mem_cons.2 ⟨?_, ?_⟩)) | (intro _; simp [RV.flatP, CD.flatP]; done)) ?_); try simp (disch := omega) only [go_sem, seval, reduceCtorEq, ↓reduceIte, beq_dec, Int.toNat_natCast, IntKind.signed, IntKind.bits]) | refine And.intro (fun hc => (?_ : AW _ _ _ _)) (fun hc => (?_ : AW _ _ _ _)) | simp (disch := omega) only [go_sem, seval, reduceCtorEq, ↓reduceIte, beq_dec, Int.toNat_natCast, IntKind.signed, IntKind.bits] | (refine And.intro ?_ ?_; focus (first | (intros; omega) | (intros; simp_all; done))) | refine And.intro (?_ : CallAt _ _ _ _ _ _ _ _) ?_ | refine And.intro (?_ : CallAt _ _ _ _ _ _ _ _ ∧ _) ?_ | refine And.intro (?_ : AW _ _ _ _) ?_ | fail))
  refine AW_loopK [9, 20, 21] [10, 12, 22, 23, 24, 25, 26, 27, 28, 29, 30, 31] (fun i : Nat => i ≤ (runsL n t o).length) (fun i => [(22, .I i), (10, .I (gapN (runsL n t o) i))]) (fun _ => []) (fun i => (runsL n t o).length - i) 0 (by omega) ?_ ?_
  · simp (disch := omega) only [go_sem, seval, reduceCtorEq, ↓reduceIte, beq_dec, Int.toNat_natCast, IntKind.signed, IntKind.bits, Int.natCast_zero, gapN]
  · rintro i hi
    have hgi := hg i hi
    have hq : i < (runsL n t o).length → 0 ≤ nth (runsL n t o) i ∧ nth (runsL n t o) i ≤ 7 := fun h => q2 _ (nth_mem _ i h)
    (repeat' (first | refine NextAt.mk (fun hc => ?_) (fun pre n v post hc hkey => ?_) | refine Sni.mk (fun hc => ?_) ?_ | refine Both.mk ?_ ?_ | refine AW_seq ?_ | refine AW_block ?_ | ((first | refine AW_reg ?_ | refine AW_cond ?_ | refine AW_skip ?_ | refine AW_exit ?_ | refine AW_ret ?_ | refine AW_regD (by kernel_rfl) ?_ | refine AW_regX (by kernel_rfl) ?_ | refine CallAtG.t (Eq.refl true) ?_ | refine CallAtG.f (Eq.refl false) ?_); try simp (disch := omega) only [go_sem, seval, reduceCtorEq, ↓reduceIte, beq_dec, Int.toNat_natCast, IntKind.signed, IntKind.bits, getD_map (fun x : Int => [CD.I x])]) | refine And.intro (fun hc => (?_ : AW _ _ _ _)) (fun hc => (?_ : AW _ _ _ _)) | simp (disch := omega) only [go_sem, seval, reduceCtorEq, ↓reduceIte, beq_dec, Int.toNat_natCast, IntKind.signed, IntKind.bits, getD_map (fun x : Int => [CD.I x])] | (refine And.intro ?_ ?_; focus (first | (intros; omega) | (intros; simp_all; done))) | refine And.intro (?_ : CallAt _ _ _ _ _ _ _ _) ?_ | refine And.intro (?_ : CallAt _ _ _ _ _ _ _ _ ∧ _) ?_ | refine And.intro (?_ : AW _ _ _ _) ?_ | fail))
    · refine .mk (i + 1) (by omega) (by omega) ?_
      simp (disch := omega) only [go_sem, seval, reduceCtorEq, ↓reduceIte, beq_dec, Int.toNat_natCast, IntKind.signed, IntKind.bits, Int.natCast_add, Int.natCast_one, gapN]
    · rw [show i = (runsL n t o).length by omega]
end Go.Proofs.Ytciglfmfemidnaa

-- P p_30s.txt
open Go Go.AL Go.RowKit
namespace Go.Proofs.Ytciglfmfemidnaa
set_option maxRecDepth 20000
/- coinage/coinagelaw30.SeriationLower -/
abbrev c3_1 : AC := .reg [⟨(some 6), .mv (.k (.B false)), none⟩] false
abbrev c3_2 : AC := .reg [⟨(some 21), .call 4 [], none⟩,
  ⟨(some 22), .not (.t 21), none⟩,
  ⟨(some 23), .mv (.t 22), none⟩,
  ⟨(some 24), .mv (.t 1), (some (23, false))⟩,
  ⟨(some 25), .call 5 [(.t 24)], (some (23, false))⟩,
  ⟨(some 26), .not (.t 25), (some (23, false))⟩,
  ⟨(some 27), .pick (.t 23) (.k (.B true)) (.t 26), none⟩,
  ⟨(some 28), .mv (.t 27), none⟩,
  ⟨(some 29), .mv (.t 2), (some (28, false))⟩,
  ⟨(some 30), .len (.t 29), (some (28, false))⟩,
  ⟨(some 31), .bin .gtr (.t 30) (.k (.I 30)), (some (28, false))⟩,
  ⟨(some 32), .pick (.t 28) (.k (.B true)) (.t 31), none⟩] false
abbrev c3_3 : AC := .reg [⟨(some 33), .call 4 [], none⟩,
  ⟨(some 6), .mv (.t 33), none⟩] false
abbrev c3_4 : AC := .seq c3_3 .ret
abbrev c3_5 : AC := .cond (.t 32) c3_4 .skip
abbrev c3_6 : AC := .seq c3_2 c3_5
abbrev c3_7 : AC := .reg [⟨(some 35), .mv (.t 0), none⟩,
  ⟨(some 36), .mv (.t 1), none⟩,
  ⟨(some 37), .call 6 [(.t 35), (.t 36)], none⟩,
  ⟨(some 34), .mv (.t 37), none⟩,
  ⟨(some 38), .ext (.t 34) 0, none⟩,
  ⟨(some 39), .ext (.t 34) 1, none⟩,
  ⟨(some 40), .ext (.t 34) 2, none⟩,
  ⟨(some 7), .mv (.t 38), none⟩,
  ⟨(some 8), .mv (.t 39), none⟩,
  ⟨(some 9), .mv (.t 40), none⟩] false
abbrev c3_8 : AC := .reg [⟨(some 41), .mks 26 1 24 [.nil] (.k (.I 4)) (.k (.I 4)), none⟩,
  ⟨(some 10), .mv (.t 41), none⟩] false
abbrev c3_9 : AC := .reg [⟨(some 42), .mks 26 1 24 [.nil] (.k (.I 3)) (.k (.I 3)), none⟩,
  ⟨(some 11), .mv (.t 42), none⟩] false
abbrev c3_10 : AC := .reg [⟨(some 43), .mks 26 1 24 [.nil] (.k (.I 1)) (.k (.I 1)), none⟩,
  ⟨(some 12), .mv (.t 43), none⟩] false
abbrev c3_11 : AC := .reg [⟨(some 13), .mv (.k (.I 0)), none⟩] false
abbrev c3_12 : AC := .reg [⟨(some 44), .mv (.t 13), none⟩,
  ⟨(some 45), .mv (.t 1), none⟩,
  ⟨(some 46), .len (.t 45), none⟩,
  ⟨(some 47), .bin .lss (.t 44) (.t 46), none⟩] false
abbrev c3_13 : AC := .cond (.t 47) .skip (.exit 0)
abbrev c3_14 : AC := .seq c3_12 c3_13
abbrev c3_15 : AC := .reg [⟨(some 14), .mv (.k (.I 3)), none⟩] false
abbrev c3_16 : AC := .reg [⟨(some 50), .mv (.t 13), none⟩,
  ⟨(some 51), .mv (.t 2), none⟩,
  ⟨(some 52), .len (.t 51), none⟩,
  ⟨(some 53), .bin .lss (.t 50) (.t 52), none⟩] false
abbrev c3_17 : AC := .reg [⟨(some 54), .mv (.t 2), none⟩,
  ⟨(some 55), .mv (.t 13), none⟩,
  ⟨(some 56), .iad 1 (.t 54) (.t 55), none⟩,
  ⟨(some 57), .ld none (.t 56), none⟩,
  ⟨(some 58), .bin .rem (.t 57) (.k (.c (.sc (.int .u8 4)))), none⟩,
  ⟨(some 59), .conv .i64 (.t 58), none⟩,
  ⟨(some 14), .mv (.t 59), none⟩] false
abbrev c3_18 : AC := .cond (.t 53) c3_17 .skip
abbrev c3_19 : AC := .seq c3_16 c3_18
abbrev c3_20 : AC := .reg [⟨(some 60), .mv (.t 10), none⟩,
  ⟨(some 61), .mv (.t 14), none⟩,
  ⟨(some 62), .mv (.t 10), none⟩,
  ⟨(some 63), .mv (.t 14), none⟩,
  ⟨(some 64), .iad 1 (.t 62) (.t 63), none⟩,
  ⟨(some 65), .ld none (.t 64), none⟩,
  ⟨(some 66), .mv (.t 13), none⟩,
  ⟨(some 67), .bslice 3 1 [(.t 66)], none⟩,
  ⟨(some 68), .app 3 1 8 (.t 65) (.t 67), none⟩,
  ⟨(some 69), .iad 1 (.t 60) (.t 61), none⟩,
  ⟨none, .st none (.t 69) (.t 68), none⟩] false
abbrev c3_21 : AC := .reg [⟨(some 70), .mv (.t 11), none⟩,
  ⟨(some 71), .mv (.t 14), none⟩,
  ⟨(some 72), .minmax false (.t 71) (.k (.I 2)), none⟩,
  ⟨(some 73), .mv (.t 11), none⟩,
  ⟨(some 74), .mv (.t 14), none⟩,
  ⟨(some 75), .minmax false (.t 74) (.k (.I 2)), none⟩,
  ⟨(some 76), .iad 1 (.t 73) (.t 75), none⟩,
  ⟨(some 77), .ld none (.t 76), none⟩,
  ⟨(some 78), .mv (.t 13), none⟩,
  ⟨(some 79), .bslice 3 1 [(.t 78)], none⟩,
  ⟨(some 80), .app 3 1 8 (.t 77) (.t 79), none⟩,
  ⟨(some 81), .iad 1 (.t 70) (.t 72), none⟩,
  ⟨none, .st none (.t 81) (.t 80), none⟩] false
abbrev c3_22 : AC := .reg [⟨(some 82), .mv (.t 12), none⟩,
  ⟨(some 83), .mv (.t 12), none⟩,
  ⟨(some 84), .iad 1 (.t 83) (.k (.I 0)), none⟩,
  ⟨(some 85), .ld none (.t 84), none⟩,
  ⟨(some 86), .mv (.t 13), none⟩,
  ⟨(some 87), .bslice 3 1 [(.t 86)], none⟩,
  ⟨(some 88), .app 3 1 8 (.t 85) (.t 87), none⟩,
  ⟨(some 89), .iad 1 (.t 82) (.k (.I 0)), none⟩,
  ⟨none, .st none (.t 89) (.t 88), none⟩] false
abbrev c3_23 : AC := .seq c3_21 c3_22
abbrev c3_24 : AC := .seq c3_20 c3_23
abbrev c3_25 : AC := .seq c3_19 c3_24
abbrev c3_26 : AC := .seq c3_15 c3_25
abbrev c3_27 : AC := .block 1 c3_26
abbrev c3_28 : AC := .reg [⟨(some 48), .mv (.t 13), none⟩,
  ⟨(some 49), .bin .add (.t 48) (.k (.I 1)), none⟩,
  ⟨(some 13), .mv (.t 49), none⟩] false
abbrev c3_29 : AC := .seq c3_27 c3_28
abbrev c3_30 : AC := .seq c3_14 c3_29
abbrev c3_31 : AC := .loop c3_30
abbrev c3_32 : AC := .block 0 c3_31
abbrev c3_33 : AC := .seq c3_11 c3_32
abbrev c3_34 : AC := .reg [⟨(some 91), .mv (.t 0), none⟩,
  ⟨(some 92), .mv (.t 1), none⟩,
  ⟨(some 93), .mv (.t 10), none⟩,
  ⟨(some 94), .call 7 [(.t 91), (.t 92), (.t 93)], none⟩,
  ⟨(some 90), .mv (.t 94), none⟩,
  ⟨(some 95), .ext (.t 90) 0, none⟩,
  ⟨(some 96), .ext (.t 90) 1, none⟩,
  ⟨(some 15), .mv (.t 95), none⟩,
  ⟨(some 16), .mv (.t 96), none⟩] false
abbrev c3_35 : AC := .reg [⟨(some 98), .mv (.t 0), none⟩,
  ⟨(some 99), .mv (.t 1), none⟩,
  ⟨(some 100), .mv (.t 11), none⟩,
  ⟨(some 101), .call 7 [(.t 98), (.t 99), (.t 100)], none⟩,
  ⟨(some 97), .mv (.t 101), none⟩,
  ⟨(some 102), .ext (.t 97) 0, none⟩,
  ⟨(some 103), .ext (.t 97) 1, none⟩,
  ⟨(some 17), .mv (.t 102), none⟩,
  ⟨(some 18), .mv (.t 103), none⟩] false
abbrev c3_36 : AC := .reg [⟨(some 105), .mv (.t 0), none⟩,
  ⟨(some 106), .mv (.t 1), none⟩,
  ⟨(some 107), .mv (.t 12), none⟩,
  ⟨(some 108), .call 7 [(.t 105), (.t 106), (.t 107)], none⟩,
  ⟨(some 104), .mv (.t 108), none⟩,
  ⟨(some 109), .ext (.t 104) 0, none⟩,
  ⟨(some 110), .ext (.t 104) 1, none⟩,
  ⟨(some 19), .mv (.t 109), none⟩,
  ⟨(some 20), .mv (.t 110), none⟩] false
abbrev c3_37 : AC := .reg [⟨(some 111), .mv (.t 9), none⟩,
  ⟨(some 112), .bin .neq (.t 111) (.k (.I 0)), none⟩] false
abbrev c3_38 : AC := .reg [⟨(some 113), .mv (.t 9), none⟩,
  ⟨(some 114), .mv (.t 16), none⟩,
  ⟨(some 115), .bin .eql (.t 113) (.t 114), none⟩,
  ⟨(some 116), .mv (.t 115), none⟩,
  ⟨(some 117), .mv (.t 16), (some (116, true))⟩,
  ⟨(some 118), .mv (.t 18), (some (116, true))⟩,
  ⟨(some 119), .bin .eql (.t 117) (.t 118), (some (116, true))⟩,
  ⟨(some 120), .pick (.t 116) (.t 119) (.k (.B false)), none⟩,
  ⟨(some 121), .mv (.t 120), none⟩,
  ⟨(some 122), .mv (.t 18), (some (121, true))⟩,
  ⟨(some 123), .mv (.t 20), (some (121, true))⟩,
  ⟨(some 124), .bin .eql (.t 122) (.t 123), (some (121, true))⟩,
  ⟨(some 125), .pick (.t 121) (.t 124) (.k (.B false)), none⟩,
  ⟨(some 6), .mv (.t 125), none⟩] false
abbrev c3_39 : AC := .seq c3_38 .ret
abbrev c3_40 : AC := .cond (.t 112) c3_39 .skip
abbrev c3_41 : AC := .seq c3_37 c3_40
abbrev c3_42 : AC := .reg [⟨(some 126), .mv (.t 16), none⟩,
  ⟨(some 127), .bin .eql (.t 126) (.k (.I 0)), none⟩,
  ⟨(some 128), .mv (.t 127), none⟩,
  ⟨(some 129), .mv (.t 18), (some (128, true))⟩,
  ⟨(some 130), .bin .eql (.t 129) (.k (.I 0)), (some (128, true))⟩,
  ⟨(some 131), .pick (.t 128) (.t 130) (.k (.B false)), none⟩,
  ⟨(some 132), .mv (.t 131), none⟩,
  ⟨(some 133), .mv (.t 20), (some (132, true))⟩,
  ⟨(some 134), .bin .eql (.t 133) (.k (.I 0)), (some (132, true))⟩,
  ⟨(some 135), .pick (.t 132) (.t 134) (.k (.B false)), none⟩,
  ⟨(some 136), .mv (.t 135), none⟩,
  ⟨(some 137), .mv (.t 15), (some (136, true))⟩,
  ⟨(some 138), .mv (.t 17), (some (136, true))⟩,
  ⟨(some 139), .bin .leq (.t 137) (.t 138), (some (136, true))⟩,
  ⟨(some 140), .pick (.t 136) (.t 139) (.k (.B false)), none⟩,
  ⟨(some 141), .mv (.t 140), none⟩,
  ⟨(some 142), .mv (.t 17), (some (141, true))⟩,
  ⟨(some 143), .mv (.t 19), (some (141, true))⟩,
  ⟨(some 144), .bin .leq (.t 142) (.t 143), (some (141, true))⟩,
  ⟨(some 145), .pick (.t 141) (.t 144) (.k (.B false)), none⟩,
  ⟨(some 146), .mv (.t 145), none⟩,
  ⟨(some 147), .mv (.t 19), (some (146, true))⟩,
  ⟨(some 148), .mv (.t 8), (some (146, true))⟩,
  ⟨(some 149), .bin .eql (.t 147) (.t 148), (some (146, true))⟩,
  ⟨(some 150), .pick (.t 146) (.t 149) (.k (.B false)), none⟩,
  ⟨(some 6), .mv (.t 150), none⟩] false
abbrev c3_43 : AC := .seq c3_42 .ret
abbrev c3_44 : AC := .seq c3_41 c3_43
abbrev c3_45 : AC := .seq c3_36 c3_44
abbrev c3_46 : AC := .seq c3_35 c3_45
abbrev c3_47 : AC := .seq c3_34 c3_46
abbrev c3_48 : AC := .seq c3_33 c3_47
abbrev c3_49 : AC := .seq c3_10 c3_48
abbrev c3_50 : AC := .seq c3_9 c3_49
abbrev c3_51 : AC := .seq c3_8 c3_50
abbrev c3_52 : AC := .seq c3_7 c3_51
abbrev c3_53 : AC := .seq c3_6 c3_52
abbrev c3_54 : AC := .seq c3_1 c3_53
abbrev c3 : AC := c3_54
theorem code3 : fnCode Try.prog 3 = some (c3, [6], 151) := by kernel_rfl
/- coinage/coinagelaw30.awake -/
abbrev c4_1 : AC := .reg [⟨(some 0), .mv (.k (.B false)), none⟩] false
abbrev c4_2 : AC := .reg [⟨(some 7), .bslice 3 1 [(.k (.I 0)), (.k (.I 1))], none⟩,
  ⟨(some 8), .bslice 3 1 [(.k (.I 1)), (.k (.I 2))], none⟩,
  ⟨(some 9), .bslice 3 1 [(.k (.I 2)), (.k (.I 3))], none⟩,
  ⟨(some 10), .bslice 3 1 [(.k (.I 0)), (.k (.I 3))], none⟩,
  ⟨(some 11), .bslice 26 1 [(.t 7), (.t 8), (.t 9), (.t 10)], none⟩,
  ⟨(some 1), .mv (.t 11), none⟩] false
abbrev c4_3 : AC := .reg [⟨(some 13), .mv (.t 1), none⟩,
  ⟨(some 14), .call 6 [(.k (.I 4)), (.t 13)], none⟩,
  ⟨(some 12), .mv (.t 14), none⟩,
  ⟨(some 15), .ext (.t 12) 0, none⟩,
  ⟨(some 16), .ext (.t 12) 1, none⟩,
  ⟨(some 17), .ext (.t 12) 2, none⟩,
  ⟨(some 2), .mv (.t 15), none⟩,
  ⟨(some 3), .mv (.t 16), none⟩,
  ⟨(some 4), .mv (.t 17), none⟩] false
abbrev c4_4 : AC := .reg [⟨(some 19), .mv (.t 1), none⟩,
  ⟨(some 20), .bslice 3 1 [(.k (.I 0)), (.k (.I 2)), (.k (.I 1)), (.k (.I 3))], none⟩,
  ⟨(some 21), .call 8 [(.k (.I 4)), (.t 19), (.t 20)], none⟩,
  ⟨(some 18), .mv (.t 21), none⟩,
  ⟨(some 22), .ext (.t 18) 0, none⟩,
  ⟨(some 23), .ext (.t 18) 1, none⟩,
  ⟨(some 5), .mv (.t 22), none⟩,
  ⟨(some 6), .mv (.t 23), none⟩] false
abbrev c4_5 : AC := .reg [⟨(some 24), .mv (.t 4), none⟩,
  ⟨(some 25), .bin .eql (.t 24) (.k (.I 0)), none⟩,
  ⟨(some 26), .mv (.t 25), none⟩,
  ⟨(some 27), .mv (.t 2), (some (26, true))⟩,
  ⟨(some 28), .bslice 3 1 [(.k (.I 0)), (.k (.I 1)), (.k (.I 2)), (.k (.I 3))], (some (26, true))⟩,
  ⟨(some 29), .call 9 [(.t 27), (.t 28)], (some (26, true))⟩,
  ⟨(some 30), .pick (.t 26) (.t 29) (.k (.B false)), none⟩,
  ⟨(some 31), .mv (.t 30), none⟩,
  ⟨(some 32), .mv (.t 3), (some (31, true))⟩,
  ⟨(some 33), .bin .eql (.t 32) (.k (.I 1)), (some (31, true))⟩,
  ⟨(some 34), .pick (.t 31) (.t 33) (.k (.B false)), none⟩,
  ⟨(some 35), .mv (.t 34), none⟩,
  ⟨(some 36), .mv (.t 6), (some (35, true))⟩,
  ⟨(some 37), .bin .eql (.t 36) (.k (.I 0)), (some (35, true))⟩,
  ⟨(some 38), .pick (.t 35) (.t 37) (.k (.B false)), none⟩,
  ⟨(some 39), .mv (.t 38), none⟩,
  ⟨(some 40), .mv (.t 5), (some (39, true))⟩,
  ⟨(some 41), .bin .eql (.t 40) (.k (.I 3)), (some (39, true))⟩,
  ⟨(some 42), .pick (.t 39) (.t 41) (.k (.B false)), none⟩,
  ⟨(some 43), .mv (.t 42), none⟩,
  ⟨(some 44), .bslice 3 1 [(.k (.I 1)), (.k (.I 2))], (some (43, true))⟩,
  ⟨(some 45), .call 10 [(.t 44)], (some (43, true))⟩,
  ⟨(some 46), .bslice 3 1 [(.k (.I 2)), (.k (.I 1))], (some (43, true))⟩,
  ⟨(some 47), .call 9 [(.t 45), (.t 46)], (some (43, true))⟩,
  ⟨(some 48), .pick (.t 43) (.t 47) (.k (.B false)), none⟩,
  ⟨(some 0), .mv (.t 48), none⟩] false
abbrev c4_6 : AC := .seq c4_5 .ret
abbrev c4_7 : AC := .seq c4_4 c4_6
abbrev c4_8 : AC := .seq c4_3 c4_7
abbrev c4_9 : AC := .seq c4_2 c4_8
abbrev c4_10 : AC := .seq c4_1 c4_9
abbrev c4 : AC := c4_10
theorem code4 : fnCode Try.prog 4 = some (c4, [0], 49) := by kernel_rfl
/- coinage/coinagelaw30.few -/
abbrev c5_1 : AC := .reg [⟨(some 2), .mv (.k (.B false)), none⟩] false
abbrev c5_2 : AC := .reg [⟨(some 3), .mv (.k (.I 0)), none⟩] false
abbrev c5_3 : AC := .reg [⟨(some 4), .mv (.t 3), none⟩,
  ⟨(some 5), .mv (.t 0), none⟩,
  ⟨(some 6), .len (.t 5), none⟩,
  ⟨(some 7), .bin .lss (.t 4) (.t 6), none⟩] false
abbrev c5_4 : AC := .cond (.t 7) .skip (.exit 0)
abbrev c5_5 : AC := .seq c5_3 c5_4
abbrev c5_6 : AC := .reg [⟨(some 10), .mv (.t 0), none⟩,
  ⟨(some 11), .mv (.t 3), none⟩,
  ⟨(some 12), .iad 1 (.t 10) (.t 11), none⟩,
  ⟨(some 13), .ld none (.t 12), none⟩,
  ⟨(some 14), .len (.t 13), none⟩,
  ⟨(some 15), .bin .gtr (.t 14) (.k (.I 20)), none⟩] false
abbrev c5_7 : AC := .reg [⟨(some 2), .mv (.k (.B false)), none⟩] false
abbrev c5_8 : AC := .seq c5_7 .ret
abbrev c5_9 : AC := .cond (.t 15) c5_8 .skip
abbrev c5_10 : AC := .seq c5_6 c5_9
abbrev c5_11 : AC := .block 1 c5_10
abbrev c5_12 : AC := .reg [⟨(some 8), .mv (.t 3), none⟩,
  ⟨(some 9), .bin .add (.t 8) (.k (.I 1)), none⟩,
  ⟨(some 3), .mv (.t 9), none⟩] false
abbrev c5_13 : AC := .seq c5_11 c5_12
abbrev c5_14 : AC := .seq c5_5 c5_13
abbrev c5_15 : AC := .loop c5_14
abbrev c5_16 : AC := .block 0 c5_15
abbrev c5_17 : AC := .seq c5_2 c5_16
abbrev c5_18 : AC := .reg [⟨(some 16), .mv (.t 0), none⟩,
  ⟨(some 17), .len (.t 16), none⟩,
  ⟨(some 18), .bin .leq (.t 17) (.k (.I 20)), none⟩,
  ⟨(some 2), .mv (.t 18), none⟩] false
abbrev c5_19 : AC := .seq c5_18 .ret
abbrev c5_20 : AC := .seq c5_17 c5_19
abbrev c5_21 : AC := .seq c5_1 c5_20
abbrev c5 : AC := c5_21
theorem code5 : fnCode Try.prog 5 = some (c5, [2], 19) := by kernel_rfl
/- coinage/seriation.Least -/
abbrev c6_1 : AC := .reg [⟨(some 4), .mv (.k (.c .nil)), none⟩,
  ⟨(some 5), .mv (.k (.I 0)), none⟩,
  ⟨(some 6), .mv (.k (.I 0)), none⟩] false
abbrev c6_2 : AC := .reg [⟨(some 9), .mv (.t 0), none⟩,
  ⟨(some 10), .mv (.t 1), none⟩,
  ⟨(some 11), .call 11 [(.t 9), (.t 10)], none⟩,
  ⟨(some 12), .not (.t 11), none⟩] false
abbrev c6_3 : AC := .reg [⟨(some 4), .mv (.k (.c .nil)), none⟩,
  ⟨(some 5), .mv (.k (.I 0)), none⟩,
  ⟨(some 6), .mv (.k (.I 1)), none⟩] false
abbrev c6_4 : AC := .seq c6_3 .ret
abbrev c6_5 : AC := .cond (.t 12) c6_4 .skip
abbrev c6_6 : AC := .seq c6_2 c6_5
abbrev c6_7 : AC := .reg [⟨(some 14), .mv (.t 0), none⟩,
  ⟨(some 15), .mv (.t 1), none⟩,
  ⟨(some 16), .call 12 [(.t 14), (.t 15)], none⟩,
  ⟨(some 13), .mv (.t 16), none⟩,
  ⟨(some 17), .ext (.t 13) 0, none⟩,
  ⟨(some 18), .ext (.t 13) 1, none⟩,
  ⟨(some 7), .mv (.t 17), none⟩,
  ⟨(some 8), .mv (.t 18), none⟩] false
abbrev c6_8 : AC := .reg [⟨(some 19), .mv (.t 7), none⟩,
  ⟨(some 20), .mv (.t 8), none⟩,
  ⟨(some 4), .mv (.t 19), none⟩,
  ⟨(some 5), .mv (.t 20), none⟩,
  ⟨(some 6), .mv (.k (.I 0)), none⟩] false
abbrev c6_9 : AC := .seq c6_8 .ret
abbrev c6_10 : AC := .seq c6_7 c6_9
abbrev c6_11 : AC := .seq c6_6 c6_10
abbrev c6_12 : AC := .seq c6_1 c6_11
abbrev c6 : AC := c6_12
theorem code6 : fnCode Try.prog 6 = some (c6, [4, 5, 6], 21) := by kernel_rfl
/- coinage/seriation.Cost -/
abbrev c8_1 : AC := .reg [⟨(some 6), .mv (.k (.I 0)), none⟩,
  ⟨(some 7), .mv (.k (.I 0)), none⟩] false
abbrev c8_2 : AC := .reg [⟨(some 19), .mv (.t 0), none⟩,
  ⟨(some 20), .mv (.t 1), none⟩,
  ⟨(some 21), .mv (.t 2), none⟩,
  ⟨(some 22), .call 13 [(.t 19), (.t 20), (.t 21)], none⟩,
  ⟨(some 18), .mv (.t 22), none⟩,
  ⟨(some 23), .ext (.t 18) 0, none⟩,
  ⟨(some 24), .ext (.t 18) 1, none⟩,
  ⟨(some 8), .mv (.t 23), none⟩,
  ⟨(some 9), .mv (.t 24), none⟩] false
abbrev c8_3 : AC := .reg [⟨(some 25), .mv (.t 9), none⟩,
  ⟨(some 26), .bin .neq (.t 25) (.k (.I 0)), none⟩,
  ⟨(some 27), .mv (.t 26), none⟩,
  ⟨(some 28), .mv (.t 0), (some (27, false))⟩,
  ⟨(some 29), .bin .eql (.t 28) (.k (.I 0)), (some (27, false))⟩,
  ⟨(some 30), .pick (.t 27) (.k (.B true)) (.t 29), none⟩] false
abbrev c8_4 : AC := .reg [⟨(some 31), .mv (.t 9), none⟩,
  ⟨(some 6), .mv (.k (.I 0)), none⟩,
  ⟨(some 7), .mv (.t 31), none⟩] false
abbrev c8_5 : AC := .seq c8_4 .ret
abbrev c8_6 : AC := .cond (.t 30) c8_5 .skip
abbrev c8_7 : AC := .seq c8_3 c8_6
abbrev c8_8 : AC := .reg [⟨(some 10), .mv (.k (.I 0)), none⟩,
  ⟨(some 11), .mv (.k (.I 0)), none⟩] false
abbrev c8_9 : AC := .reg [⟨(some 32), .mv (.t 8), none⟩,
  ⟨(some 33), .len (.t 32), none⟩,
  ⟨(some 34), .mv (.k (.I 0)), none⟩] false
abbrev c8_10 : AC := .reg [⟨(some 35), .bin .lss (.t 34) (.t 33), none⟩] false
abbrev c8_11 : AC := .cond (.t 35) .skip (.exit 0)
abbrev c8_12 : AC := .reg [⟨(some 36), .iad 1 (.t 32) (.t 34), none⟩,
  ⟨(some 37), .ld none (.t 36), none⟩,
  ⟨(some 13), .mv (.t 37), none⟩] false
abbrev c8_13 : AC := .reg [⟨(some 38), .mv (.t 10), none⟩,
  ⟨(some 39), .mv (.t 13), none⟩,
  ⟨(some 40), .bin .add (.t 38) (.t 39), none⟩,
  ⟨(some 10), .mv (.t 40), none⟩] false
abbrev c8_14 : AC := .seq c8_12 c8_13
abbrev c8_15 : AC := .block 1 c8_14
abbrev c8_16 : AC := .reg [⟨(some 41), .bin .add (.t 34) (.k (.I 1)), none⟩,
  ⟨(some 34), .mv (.t 41), none⟩] false
abbrev c8_17 : AC := .seq c8_15 c8_16
abbrev c8_18 : AC := .seq c8_11 c8_17
abbrev c8_19 : AC := .seq c8_10 c8_18
abbrev c8_20 : AC := .loop c8_19
abbrev c8_21 : AC := .block 0 c8_20
abbrev c8_22 : AC := .seq c8_9 c8_21
abbrev c8_23 : AC := .reg [⟨(some 42), .mv (.t 0), none⟩,
  ⟨(some 43), .mv (.t 1), none⟩,
  ⟨(some 44), .call 14 [(.t 42), (.t 43)], none⟩,
  ⟨(some 45), .nilck (.t 44), none⟩,
  ⟨(some 46), .fad 1 (.t 45), none⟩,
  ⟨(some 47), .ld none (.t 46), none⟩,
  ⟨(some 48), .len (.t 47), none⟩,
  ⟨(some 49), .mv (.k (.I 0)), none⟩] false
abbrev c8_24 : AC := .reg [⟨(some 50), .bin .lss (.t 49) (.t 48), none⟩] false
abbrev c8_25 : AC := .cond (.t 50) .skip (.exit 2)
abbrev c8_26 : AC := .reg [⟨(some 51), .mv (.t 49), none⟩,
  ⟨(some 52), .iad 1 (.t 47) (.t 49), none⟩,
  ⟨(some 53), .ld none (.t 52), none⟩,
  ⟨(some 14), .mv (.t 51), none⟩,
  ⟨(some 15), .mv (.t 53), none⟩] false
abbrev c8_27 : AC := .regD [(⟨(some 54), .mv (.t 2), none⟩, [2]),
  (⟨(some 55), .iad 1 (.t 54) (.k (.I 0)), none⟩, [54]),
  (⟨(some 56), .ld none (.t 55), none⟩, [55]),
  (⟨(some 57), .mv (.t 2), none⟩, [2]),
  (⟨(some 58), .mv (.t 0), none⟩, [0]),
  (⟨(some 59), .bin .sub (.t 58) (.k (.I 1)), none⟩, [58]),
  (⟨(some 60), .iad 1 (.t 57) (.t 59), none⟩, [57, 59]),
  (⟨(some 61), .ld none (.t 60), none⟩, [60]),
  (⟨(some 62), .build [(.I 0), (.I 0)] [(0, 1, (.t 56)), (1, 1, (.t 61))], none⟩, [56, 61]),
  (⟨(some 63), .mv (.k (.I 0)), none⟩, [])]
abbrev c8_28 : AC := .reg [⟨(some 64), .bin .lss (.t 63) (.k (.I 2)), none⟩] false
abbrev c8_29 : AC := .cond (.t 64) .skip (.exit 4)
abbrev c8_30 : AC := .reg [⟨(some 65), .idx 2 1 false (.t 62) (.t 63), none⟩,
  ⟨(some 17), .mv (.t 65), none⟩] false
abbrev c8_31 : AC := .reg [⟨(some 66), .mv (.t 15), none⟩,
  ⟨(some 67), .mv (.t 17), none⟩,
  ⟨(some 68), .iad 1 (.t 66) (.t 67), none⟩,
  ⟨(some 69), .ld none (.t 68), none⟩] false
abbrev c8_32 : AC := .reg [⟨(some 70), .mv (.t 10), none⟩,
  ⟨(some 71), .bin .add (.t 70) (.k (.I 1)), none⟩,
  ⟨(some 10), .mv (.t 71), none⟩] false
abbrev c8_33 : AC := .cond (.t 69) c8_32 .skip
abbrev c8_34 : AC := .seq c8_31 c8_33
abbrev c8_35 : AC := .seq c8_30 c8_34
abbrev c8_36 : AC := .block 5 c8_35
abbrev c8_37 : AC := .reg [⟨(some 72), .bin .add (.t 63) (.k (.I 1)), none⟩,
  ⟨(some 63), .mv (.t 72), none⟩] false
abbrev c8_38 : AC := .seq c8_36 c8_37
abbrev c8_39 : AC := .seq c8_29 c8_38
abbrev c8_40 : AC := .seq c8_28 c8_39
abbrev c8_41 : AC := .loop c8_40
abbrev c8_42 : AC := .block 4 c8_41
abbrev c8_43 : AC := .seq c8_27 c8_42
abbrev c8_44 : AC := .reg [⟨(some 73), .mv (.t 1), none⟩,
  ⟨(some 74), .mv (.t 14), none⟩,
  ⟨(some 75), .iad 1 (.t 73) (.t 74), none⟩,
  ⟨(some 76), .ld none (.t 75), none⟩,
  ⟨(some 77), .len (.t 76), none⟩,
  ⟨(some 78), .bin .gtr (.t 77) (.k (.I 0)), none⟩] false
abbrev c8_45 : AC := .reg [⟨(some 79), .mv (.t 11), none⟩,
  ⟨(some 80), .bin .add (.t 79) (.k (.I 1)), none⟩,
  ⟨(some 11), .mv (.t 80), none⟩] false
abbrev c8_46 : AC := .cond (.t 78) c8_45 .skip
abbrev c8_47 : AC := .seq c8_44 c8_46
abbrev c8_48 : AC := .seq c8_43 c8_47
abbrev c8_49 : AC := .seq c8_26 c8_48
abbrev c8_50 : AC := .block 3 c8_49
abbrev c8_51 : AC := .reg [⟨(some 81), .bin .add (.t 49) (.k (.I 1)), none⟩,
  ⟨(some 49), .mv (.t 81), none⟩] false
abbrev c8_52 : AC := .seq c8_50 c8_51
abbrev c8_53 : AC := .seq c8_25 c8_52
abbrev c8_54 : AC := .seq c8_24 c8_53
abbrev c8_55 : AC := .loop c8_54
abbrev c8_56 : AC := .block 2 c8_55
abbrev c8_57 : AC := .seq c8_23 c8_56
abbrev c8_58 : AC := .reg [⟨(some 82), .mv (.t 10), none⟩,
  ⟨(some 83), .bin .quo (.t 82) (.k (.I 2)), none⟩,
  ⟨(some 84), .mv (.t 11), none⟩,
  ⟨(some 85), .bin .sub (.t 83) (.t 84), none⟩,
  ⟨(some 6), .mv (.t 85), none⟩,
  ⟨(some 7), .mv (.k (.I 0)), none⟩] false
abbrev c8_59 : AC := .seq c8_58 .ret
abbrev c8_60 : AC := .seq c8_57 c8_59
abbrev c8_61 : AC := .seq c8_22 c8_60
abbrev c8_62 : AC := .seq c8_8 c8_61
abbrev c8_63 : AC := .seq c8_7 c8_62
abbrev c8_64 : AC := .seq c8_2 c8_63
abbrev c8_65 : AC := .seq c8_1 c8_64
abbrev c8 : AC := c8_65
theorem code8 : fnCode Try.prog 8 = some (c8, [6, 7], 86) := by kernel_rfl
/- coinage/seriation.Adjacent -/
abbrev c13_1 : AC := .reg [⟨(some 6), .mv (.k (.c .nil)), none⟩,
  ⟨(some 7), .mv (.k (.I 0)), none⟩] false
abbrev c13_2 : AC := .reg [⟨(some 17), .mv (.t 0), none⟩,
  ⟨(some 18), .mv (.t 1), none⟩,
  ⟨(some 19), .mv (.t 2), none⟩,
  ⟨(some 20), .call 18 [(.t 17), (.t 18), (.t 19)], none⟩,
  ⟨(some 16), .mv (.t 20), none⟩,
  ⟨(some 21), .ext (.t 16) 0, none⟩,
  ⟨(some 22), .ext (.t 16) 1, none⟩,
  ⟨(some 8), .mv (.t 21), none⟩,
  ⟨(some 9), .mv (.t 22), none⟩] false
abbrev c13_3 : AC := .reg [⟨(some 23), .mv (.t 9), none⟩,
  ⟨(some 24), .bin .neq (.t 23) (.k (.I 0)), none⟩] false
abbrev c13_4 : AC := .reg [⟨(some 25), .mv (.t 9), none⟩,
  ⟨(some 6), .mv (.k (.c .nil)), none⟩,
  ⟨(some 7), .mv (.t 25), none⟩] false
abbrev c13_5 : AC := .seq c13_4 .ret
abbrev c13_6 : AC := .cond (.t 24) c13_5 .skip
abbrev c13_7 : AC := .seq c13_3 c13_6
abbrev c13_8 : AC := .seq c13_2 c13_7
abbrev c13_9 : AC := .reg [⟨(some 26), .mv (.t 0), none⟩,
  ⟨(some 27), .mv (.t 1), none⟩,
  ⟨(some 28), .call 14 [(.t 26), (.t 27)], none⟩,
  ⟨(some 10), .mv (.t 28), none⟩] false
abbrev c13_10 : AC := .reg [⟨(some 11), .mv (.k (.c .nil)), none⟩] false
abbrev c13_11 : AC := .reg [⟨(some 12), .mv (.k (.I 1)), none⟩] false
abbrev c13_12 : AC := .reg [⟨(some 29), .mv (.t 12), none⟩,
  ⟨(some 30), .mv (.t 0), none⟩,
  ⟨(some 31), .bin .lss (.t 29) (.t 30), none⟩] false
abbrev c13_13 : AC := .cond (.t 31) .skip (.exit 0)
abbrev c13_14 : AC := .seq c13_12 c13_13
abbrev c13_15 : AC := .reg [⟨(some 13), .mv (.k (.I 0)), none⟩] false
abbrev c13_16 : AC := .reg [⟨(some 34), .mv (.t 10), none⟩,
  ⟨(some 35), .nilck (.t 34), none⟩,
  ⟨(some 36), .fad 1 (.t 35), none⟩,
  ⟨(some 37), .ld none (.t 36), none⟩,
  ⟨(some 38), .len (.t 37), none⟩,
  ⟨(some 39), .mv (.k (.I 0)), none⟩] false
abbrev c13_17 : AC := .reg [⟨(some 40), .bin .lss (.t 39) (.t 38), none⟩] false
abbrev c13_18 : AC := .cond (.t 40) .skip (.exit 2)
abbrev c13_19 : AC := .reg [⟨(some 41), .iad 1 (.t 37) (.t 39), none⟩,
  ⟨(some 42), .ld none (.t 41), none⟩,
  ⟨(some 15), .mv (.t 42), none⟩] false
abbrev c13_20 : AC := .regD [(⟨(some 43), .mv (.t 15), none⟩, [15]),
  (⟨(some 44), .mv (.t 2), none⟩, [2]),
  (⟨(some 45), .mv (.t 12), none⟩, [12]),
  (⟨(some 46), .bin .sub (.t 45) (.k (.I 1)), none⟩, [45]),
  (⟨(some 47), .iad 1 (.t 44) (.t 46), none⟩, [44, 46]),
  (⟨(some 48), .ld none (.t 47), none⟩, [47]),
  (⟨(some 49), .iad 1 (.t 43) (.t 48), none⟩, [43, 48]),
  (⟨(some 50), .ld none (.t 49), none⟩, [49]),
  (⟨(some 51), .mv (.t 15), none⟩, [15]),
  (⟨(some 52), .mv (.t 2), none⟩, [2]),
  (⟨(some 53), .mv (.t 12), none⟩, [12]),
  (⟨(some 54), .iad 1 (.t 52) (.t 53), none⟩, [52, 53]),
  (⟨(some 55), .ld none (.t 54), none⟩, [54]),
  (⟨(some 56), .iad 1 (.t 51) (.t 55), none⟩, [51, 55]),
  (⟨(some 57), .ld none (.t 56), none⟩, [56]),
  (⟨(some 58), .beq true (.t 50) (.t 57), none⟩, [50, 57])]
abbrev c13_21 : AC := .reg [⟨(some 59), .mv (.t 13), none⟩,
  ⟨(some 60), .bin .add (.t 59) (.k (.I 1)), none⟩,
  ⟨(some 13), .mv (.t 60), none⟩] false
abbrev c13_22 : AC := .cond (.t 58) c13_21 .skip
abbrev c13_23 : AC := .seq c13_20 c13_22
abbrev c13_24 : AC := .seq c13_19 c13_23
abbrev c13_25 : AC := .block 3 c13_24
abbrev c13_26 : AC := .reg [⟨(some 61), .bin .add (.t 39) (.k (.I 1)), none⟩,
  ⟨(some 39), .mv (.t 61), none⟩] false
abbrev c13_27 : AC := .seq c13_25 c13_26
abbrev c13_28 : AC := .seq c13_18 c13_27
abbrev c13_29 : AC := .seq c13_17 c13_28
abbrev c13_30 : AC := .loop c13_29
abbrev c13_31 : AC := .block 2 c13_30
abbrev c13_32 : AC := .seq c13_16 c13_31
abbrev c13_33 : AC := .reg [⟨(some 62), .mv (.t 11), none⟩,
  ⟨(some 63), .mv (.t 13), none⟩,
  ⟨(some 64), .bslice 3 1 [(.t 63)], none⟩,
  ⟨(some 65), .app 3 1 8 (.t 62) (.t 64), none⟩,
  ⟨(some 11), .mv (.t 65), none⟩] false
abbrev c13_34 : AC := .seq c13_32 c13_33
abbrev c13_35 : AC := .seq c13_15 c13_34
abbrev c13_36 : AC := .block 1 c13_35
abbrev c13_37 : AC := .reg [⟨(some 32), .mv (.t 12), none⟩,
  ⟨(some 33), .bin .add (.t 32) (.k (.I 1)), none⟩,
  ⟨(some 12), .mv (.t 33), none⟩] false
abbrev c13_38 : AC := .seq c13_36 c13_37
abbrev c13_39 : AC := .seq c13_14 c13_38
abbrev c13_40 : AC := .loop c13_39
abbrev c13_41 : AC := .block 0 c13_40
abbrev c13_42 : AC := .seq c13_11 c13_41
abbrev c13_43 : AC := .reg [⟨(some 66), .mv (.t 11), none⟩,
  ⟨(some 6), .mv (.t 66), none⟩,
  ⟨(some 7), .mv (.k (.I 0)), none⟩] false
abbrev c13_44 : AC := .seq c13_43 .ret
abbrev c13_45 : AC := .seq c13_42 c13_44
abbrev c13_46 : AC := .seq c13_10 c13_45
abbrev c13_47 : AC := .seq c13_9 c13_46
abbrev c13_48 : AC := .seq c13_8 c13_47
abbrev c13_49 : AC := .seq c13_1 c13_48
abbrev c13 : AC := c13_49
theorem code13 : fnCode Try.prog 13 = some (c13, [6, 7], 67) := by kernel_rfl
/- coinage/seriation.Turned -/
abbrev c10_1 : AC := .reg [⟨(some 2), .mv (.k (.c .nil)), none⟩] false
abbrev c10_2 : AC := .reg [⟨(some 4), .mv (.t 0), none⟩,
  ⟨(some 5), .call 15 [(.t 4)], none⟩,
  ⟨(some 3), .mv (.t 5), none⟩] false
abbrev c10_3 : AC := .reg [⟨(some 6), .mv (.t 3), none⟩,
  ⟨(some 7), .call 16 [(.t 6)], none⟩] false
abbrev c10_4 : AC := .reg [⟨(some 8), .mv (.t 3), none⟩,
  ⟨(some 2), .mv (.t 8), none⟩] false
abbrev c10_5 : AC := .seq c10_4 .ret
abbrev c10_6 : AC := .seq c10_3 c10_5
abbrev c10_7 : AC := .seq c10_2 c10_6
abbrev c10_8 : AC := .seq c10_1 c10_7
abbrev c10 : AC := c10_8
theorem code10 : fnCode Try.prog 10 = some (c10, [2], 9) := by kernel_rfl
/- coinage/seriation.Bound -/
abbrev c7_1 : AC := .reg [⟨(some 6), .mv (.k (.I 0)), none⟩,
  ⟨(some 7), .mv (.k (.I 0)), none⟩] false
abbrev c7_2 : AC := .reg [⟨(some 21), .mv (.t 0), none⟩,
  ⟨(some 22), .mv (.t 1), none⟩,
  ⟨(some 23), .call 11 [(.t 21), (.t 22)], none⟩,
  ⟨(some 24), .not (.t 23), none⟩] false
abbrev c7_3 : AC := .reg [⟨(some 6), .mv (.k (.I 0)), none⟩,
  ⟨(some 7), .mv (.k (.I 1)), none⟩] false
abbrev c7_4 : AC := .seq c7_3 .ret
abbrev c7_5 : AC := .cond (.t 24) c7_4 .skip
abbrev c7_6 : AC := .seq c7_2 c7_5
abbrev c7_7 : AC := .reg [⟨(some 25), .mv (.t 1), none⟩,
  ⟨(some 26), .len (.t 25), none⟩,
  ⟨(some 27), .mks 4 1 1 [(.sc (.bool false))] (.t 26) (.t 26), none⟩,
  ⟨(some 8), .mv (.t 27), none⟩] false
abbrev c7_8 : AC := .reg [⟨(some 28), .mv (.t 2), none⟩,
  ⟨(some 29), .len (.t 28), none⟩,
  ⟨(some 30), .mv (.k (.I 0)), none⟩] false
abbrev c7_9 : AC := .reg [⟨(some 31), .bin .lss (.t 30) (.t 29), none⟩] false
abbrev c7_10 : AC := .cond (.t 31) .skip (.exit 0)
abbrev c7_11 : AC := .reg [⟨(some 32), .iad 1 (.t 28) (.t 30), none⟩,
  ⟨(some 33), .ld none (.t 32), none⟩,
  ⟨(some 10), .mv (.t 33), none⟩] false
abbrev c7_12 : AC := .reg [⟨(some 34), .mv (.t 10), none⟩,
  ⟨(some 35), .len (.t 34), none⟩,
  ⟨(some 36), .mv (.k (.I 0)), none⟩] false
abbrev c7_13 : AC := .reg [⟨(some 37), .bin .lss (.t 36) (.t 35), none⟩] false
abbrev c7_14 : AC := .cond (.t 37) .skip (.exit 2)
abbrev c7_15 : AC := .reg [⟨(some 38), .mv (.t 36), none⟩,
  ⟨(some 39), .iad 1 (.t 34) (.t 36), none⟩,
  ⟨(some 40), .ld none (.t 39), none⟩,
  ⟨(some 11), .mv (.t 38), none⟩,
  ⟨(some 12), .mv (.t 40), none⟩] false
abbrev c7_16 : AC := .reg [⟨(some 41), .mv (.t 12), none⟩,
  ⟨(some 42), .bin .lss (.t 41) (.k (.I 0)), none⟩,
  ⟨(some 43), .mv (.t 42), none⟩,
  ⟨(some 44), .mv (.t 12), (some (43, false))⟩,
  ⟨(some 45), .mv (.t 1), (some (43, false))⟩,
  ⟨(some 46), .len (.t 45), (some (43, false))⟩,
  ⟨(some 47), .bin .geq (.t 44) (.t 46), (some (43, false))⟩,
  ⟨(some 48), .pick (.t 43) (.k (.B true)) (.t 47), none⟩,
  ⟨(some 49), .mv (.t 48), none⟩,
  ⟨(some 50), .mv (.t 11), (some (49, false))⟩,
  ⟨(some 51), .bin .gtr (.t 50) (.k (.I 0)), (some (49, false))⟩,
  ⟨(some 52), .mv (.t 51), (some (49, false))⟩,
  ⟨(some 53), .mv (.t 12), (some (52, true))⟩,
  ⟨(some 54), .mv (.t 10), (some (52, true))⟩,
  ⟨(some 55), .mv (.t 11), (some (52, true))⟩,
  ⟨(some 56), .bin .sub (.t 55) (.k (.I 1)), (some (52, true))⟩,
  ⟨(some 57), .iad 1 (.t 54) (.t 56), (some (52, true))⟩,
  ⟨(some 58), .ld none (.t 57), (some (52, true))⟩,
  ⟨(some 59), .bin .leq (.t 53) (.t 58), (some (52, true))⟩,
  ⟨(some 60), .pick (.t 52) (.t 59) (.k (.B false)), (some (49, false))⟩,
  ⟨(some 61), .pick (.t 49) (.k (.B true)) (.t 60), none⟩,
  ⟨(some 62), .mv (.t 61), none⟩,
  ⟨(some 63), .mv (.t 8), (some (62, false))⟩,
  ⟨(some 64), .mv (.t 12), (some (62, false))⟩,
  ⟨(some 65), .iad 1 (.t 63) (.t 64), (some (62, false))⟩,
  ⟨(some 66), .ld none (.t 65), (some (62, false))⟩,
  ⟨(some 67), .pick (.t 62) (.k (.B true)) (.t 66), none⟩] false
abbrev c7_17 : AC := .reg [⟨(some 6), .mv (.k (.I 0)), none⟩,
  ⟨(some 7), .mv (.k (.I 2)), none⟩] false
abbrev c7_18 : AC := .seq c7_17 .ret
abbrev c7_19 : AC := .cond (.t 67) c7_18 .skip
abbrev c7_20 : AC := .seq c7_16 c7_19
abbrev c7_21 : AC := .reg [⟨(some 68), .mv (.t 8), none⟩,
  ⟨(some 69), .mv (.t 12), none⟩,
  ⟨(some 70), .iad 1 (.t 68) (.t 69), none⟩,
  ⟨none, .st none (.t 70) (.k (.B true)), none⟩] false
abbrev c7_22 : AC := .seq c7_20 c7_21
abbrev c7_23 : AC := .seq c7_15 c7_22
abbrev c7_24 : AC := .block 3 c7_23
abbrev c7_25 : AC := .reg [⟨(some 71), .bin .add (.t 36) (.k (.I 1)), none⟩,
  ⟨(some 36), .mv (.t 71), none⟩] false
abbrev c7_26 : AC := .seq c7_24 c7_25
abbrev c7_27 : AC := .seq c7_14 c7_26
abbrev c7_28 : AC := .seq c7_13 c7_27
abbrev c7_29 : AC := .loop c7_28
abbrev c7_30 : AC := .block 2 c7_29
abbrev c7_31 : AC := .seq c7_12 c7_30
abbrev c7_32 : AC := .seq c7_11 c7_31
abbrev c7_33 : AC := .block 1 c7_32
abbrev c7_34 : AC := .reg [⟨(some 72), .bin .add (.t 30) (.k (.I 1)), none⟩,
  ⟨(some 30), .mv (.t 72), none⟩] false
abbrev c7_35 : AC := .seq c7_33 c7_34
abbrev c7_36 : AC := .seq c7_10 c7_35
abbrev c7_37 : AC := .seq c7_9 c7_36
abbrev c7_38 : AC := .loop c7_37
abbrev c7_39 : AC := .block 0 c7_38
abbrev c7_40 : AC := .seq c7_8 c7_39
abbrev c7_41 : AC := .reg [⟨(some 13), .mv (.k (.I 0)), none⟩] false
abbrev c7_42 : AC := .reg [⟨(some 73), .mv (.t 2), none⟩,
  ⟨(some 74), .len (.t 73), none⟩,
  ⟨(some 75), .mv (.k (.I 0)), none⟩] false
abbrev c7_43 : AC := .reg [⟨(some 76), .bin .lss (.t 75) (.t 74), none⟩] false
abbrev c7_44 : AC := .cond (.t 76) .skip (.exit 4)
abbrev c7_45 : AC := .reg [⟨(some 77), .iad 1 (.t 73) (.t 75), none⟩,
  ⟨(some 78), .ld none (.t 77), none⟩,
  ⟨(some 15), .mv (.t 78), none⟩] false
abbrev c7_46 : AC := .reg [⟨(some 16), .mv (.k (.c .nil)), none⟩] false
abbrev c7_47 : AC := .reg [⟨(some 79), .mv (.t 15), none⟩,
  ⟨(some 80), .len (.t 79), none⟩,
  ⟨(some 81), .mv (.k (.I 0)), none⟩] false
abbrev c7_48 : AC := .reg [⟨(some 82), .bin .lss (.t 81) (.t 80), none⟩] false
abbrev c7_49 : AC := .cond (.t 82) .skip (.exit 6)
abbrev c7_50 : AC := .reg [⟨(some 83), .iad 1 (.t 79) (.t 81), none⟩,
  ⟨(some 84), .ld none (.t 83), none⟩,
  ⟨(some 18), .mv (.t 84), none⟩] false
abbrev c7_51 : AC := .reg [⟨(some 85), .mv (.t 16), none⟩,
  ⟨(some 86), .mv (.t 1), none⟩,
  ⟨(some 87), .mv (.t 18), none⟩,
  ⟨(some 88), .iad 1 (.t 86) (.t 87), none⟩,
  ⟨(some 89), .ld none (.t 88), none⟩,
  ⟨(some 90), .bslice 26 1 [(.t 89)], none⟩,
  ⟨(some 91), .app 26 1 24 (.t 85) (.t 90), none⟩,
  ⟨(some 16), .mv (.t 91), none⟩] false
abbrev c7_52 : AC := .seq c7_50 c7_51
abbrev c7_53 : AC := .block 7 c7_52
abbrev c7_54 : AC := .reg [⟨(some 92), .bin .add (.t 81) (.k (.I 1)), none⟩,
  ⟨(some 81), .mv (.t 92), none⟩] false
abbrev c7_55 : AC := .seq c7_53 c7_54
abbrev c7_56 : AC := .seq c7_49 c7_55
abbrev c7_57 : AC := .seq c7_48 c7_56
abbrev c7_58 : AC := .loop c7_57
abbrev c7_59 : AC := .block 6 c7_58
abbrev c7_60 : AC := .seq c7_47 c7_59
abbrev c7_61 : AC := .reg [⟨(some 94), .mv (.t 0), none⟩,
  ⟨(some 95), .mv (.t 16), none⟩,
  ⟨(some 96), .call 12 [(.t 94), (.t 95)], none⟩,
  ⟨(some 93), .mv (.t 96), none⟩,
  ⟨(some 97), .ext (.t 93) 0, none⟩,
  ⟨(some 98), .ext (.t 93) 1, none⟩,
  ⟨(some 19), .mv (.t 97), none⟩,
  ⟨(some 20), .mv (.t 98), none⟩] false
abbrev c7_62 : AC := .reg [⟨(some 99), .mv (.t 13), none⟩,
  ⟨(some 100), .mv (.t 20), none⟩,
  ⟨(some 101), .bin .add (.t 99) (.t 100), none⟩,
  ⟨(some 13), .mv (.t 101), none⟩] false
abbrev c7_63 : AC := .seq c7_61 c7_62
abbrev c7_64 : AC := .seq c7_60 c7_63
abbrev c7_65 : AC := .seq c7_46 c7_64
abbrev c7_66 : AC := .seq c7_45 c7_65
abbrev c7_67 : AC := .block 5 c7_66
abbrev c7_68 : AC := .reg [⟨(some 102), .bin .add (.t 75) (.k (.I 1)), none⟩,
  ⟨(some 75), .mv (.t 102), none⟩] false
abbrev c7_69 : AC := .seq c7_67 c7_68
abbrev c7_70 : AC := .seq c7_44 c7_69
abbrev c7_71 : AC := .seq c7_43 c7_70
abbrev c7_72 : AC := .loop c7_71
abbrev c7_73 : AC := .block 4 c7_72
abbrev c7_74 : AC := .seq c7_42 c7_73
abbrev c7_75 : AC := .reg [⟨(some 103), .mv (.t 13), none⟩,
  ⟨(some 6), .mv (.t 103), none⟩,
  ⟨(some 7), .mv (.k (.I 0)), none⟩] false
abbrev c7_76 : AC := .seq c7_75 .ret
abbrev c7_77 : AC := .seq c7_74 c7_76
abbrev c7_78 : AC := .seq c7_41 c7_77
abbrev c7_79 : AC := .seq c7_40 c7_78
abbrev c7_80 : AC := .seq c7_7 c7_79
abbrev c7_81 : AC := .seq c7_6 c7_80
abbrev c7_82 : AC := .seq c7_1 c7_81
abbrev c7 : AC := c7_82
theorem code7 : fnCode Try.prog 7 = some (c7, [6, 7], 104) := by kernel_rfl
/- coinage/seriation.least -/
abbrev c12_1 : AC := .reg [⟨(some 4), .mv (.k (.c .nil)), none⟩,
  ⟨(some 5), .mv (.k (.I 0)), none⟩] false
abbrev c12_2 : AC := .reg [⟨(some 7), .mv (.t 0), none⟩,
  ⟨(some 8), .mv (.t 1), none⟩,
  ⟨(some 9), .call 14 [(.t 7), (.t 8)], none⟩,
  ⟨(some 6), .mv (.t 9), none⟩] false
abbrev c12_3 : AC := .reg [⟨(some 10), .mv (.t 6), none⟩,
  ⟨(some 11), .mv (.t 1), none⟩,
  ⟨(some 12), .len (.t 11), none⟩,
  ⟨(some 13), .mks 3 1 8 [(.sc (.int .i64 0))] (.t 12) (.t 12), none⟩,
  ⟨(some 14), .call 17 [(.t 10), (.t 13), (.k (.I 0))], none⟩] false
abbrev c12_4 : AC := .regD [(⟨(some 15), .mv (.t 6), none⟩, [6]),
  (⟨(some 16), .nilck (.t 15), none⟩, [15]),
  (⟨(some 17), .fad 4 (.t 16), none⟩, [16]),
  (⟨(some 18), .ld none (.t 17), none⟩, [17]),
  (⟨(some 19), .mv (.t 6), none⟩, [6]),
  (⟨(some 20), .nilck (.t 19), none⟩, [19]),
  (⟨(some 21), .fad 5 (.t 20), none⟩, [20]),
  (⟨(some 22), .ld none (.t 21), none⟩, [21]),
  (⟨(some 4), .mv (.t 18), none⟩, [18]),
  (⟨(some 5), .mv (.t 22), none⟩, [22])]
abbrev c12_5 : AC := .seq c12_4 .ret
abbrev c12_6 : AC := .seq c12_3 c12_5
abbrev c12_7 : AC := .seq c12_2 c12_6
abbrev c12_8 : AC := .seq c12_1 c12_7
abbrev c12 : AC := c12_8
theorem code12 : fnCode Try.prog 12 = some (c12, [4, 5], 23) := by kernel_rfl
/- coinage/seriation.begin -/
abbrev c14_1 : AC := .reg [⟨(some 4), .mv (.k .any), none⟩] false
abbrev c14_2 : AC := .reg [⟨(some 11), .mv (.t 0), none⟩,
  ⟨(some 12), .mv (.t 0), none⟩,
  ⟨(some 13), .mks 4 1 1 [(.sc (.bool false))] (.t 12) (.t 12), none⟩,
  ⟨(some 14), .build [(.I 0), (.c .nil), (.c .nil), (.c .nil), (.c .nil), (.I 0)] [(0, 1, (.t 11)), (3, 1, (.t 13)), (5, 1, (.k (.I (-1))))], none⟩,
  ⟨(some 15), .box 44 (some 6) (.t 14), none⟩,
  ⟨(some 5), .mv (.t 15), none⟩] false
abbrev c14_3 : AC := .reg [⟨(some 16), .mv (.t 1), none⟩,
  ⟨(some 17), .len (.t 16), none⟩,
  ⟨(some 18), .mv (.k (.I 0)), none⟩] false
abbrev c14_4 : AC := .reg [⟨(some 19), .bin .lss (.t 18) (.t 17), none⟩] false
abbrev c14_5 : AC := .cond (.t 19) .skip (.exit 0)
abbrev c14_6 : AC := .reg [⟨(some 20), .iad 1 (.t 16) (.t 18), none⟩,
  ⟨(some 21), .ld none (.t 20), none⟩,
  ⟨(some 7), .mv (.t 21), none⟩] false
abbrev c14_7 : AC := .reg [⟨(some 22), .mv (.t 0), none⟩,
  ⟨(some 23), .mks 4 1 1 [(.sc (.bool false))] (.t 22) (.t 22), none⟩,
  ⟨(some 8), .mv (.t 23), none⟩] false
abbrev c14_8 : AC := .reg [⟨(some 24), .mv (.t 7), none⟩,
  ⟨(some 25), .len (.t 24), none⟩,
  ⟨(some 26), .mv (.k (.I 0)), none⟩] false
abbrev c14_9 : AC := .reg [⟨(some 27), .bin .lss (.t 26) (.t 25), none⟩] false
abbrev c14_10 : AC := .cond (.t 27) .skip (.exit 2)
abbrev c14_11 : AC := .reg [⟨(some 28), .iad 1 (.t 24) (.t 26), none⟩,
  ⟨(some 29), .ld none (.t 28), none⟩,
  ⟨(some 10), .mv (.t 29), none⟩] false
abbrev c14_12 : AC := .reg [⟨(some 30), .mv (.t 8), none⟩,
  ⟨(some 31), .mv (.t 10), none⟩,
  ⟨(some 32), .iad 1 (.t 30) (.t 31), none⟩,
  ⟨none, .st none (.t 32) (.k (.B true)), none⟩] false
abbrev c14_13 : AC := .seq c14_11 c14_12
abbrev c14_14 : AC := .block 3 c14_13
abbrev c14_15 : AC := .reg [⟨(some 33), .bin .add (.t 26) (.k (.I 1)), none⟩,
  ⟨(some 26), .mv (.t 33), none⟩] false
abbrev c14_16 : AC := .seq c14_14 c14_15
abbrev c14_17 : AC := .seq c14_10 c14_16
abbrev c14_18 : AC := .seq c14_9 c14_17
abbrev c14_19 : AC := .loop c14_18
abbrev c14_20 : AC := .block 2 c14_19
abbrev c14_21 : AC := .seq c14_8 c14_20
abbrev c14_22 : AC := .reg [⟨(some 34), .mv (.t 5), none⟩,
  ⟨(some 35), .mv (.t 5), none⟩,
  ⟨(some 36), .nilck (.t 35), none⟩,
  ⟨(some 37), .fad 1 (.t 36), none⟩,
  ⟨(some 38), .ld none (.t 37), none⟩,
  ⟨(some 39), .mv (.t 8), none⟩,
  ⟨(some 40), .bslice 39 1 [(.t 39)], none⟩,
  ⟨(some 41), .app 39 1 24 (.t 38) (.t 40), none⟩,
  ⟨(some 42), .nilck (.t 34), none⟩,
  ⟨(some 43), .fad 1 (.t 42), none⟩,
  ⟨none, .st none (.t 43) (.t 41), none⟩] false
abbrev c14_23 : AC := .seq c14_21 c14_22
abbrev c14_24 : AC := .seq c14_7 c14_23
abbrev c14_25 : AC := .seq c14_6 c14_24
abbrev c14_26 : AC := .block 1 c14_25
abbrev c14_27 : AC := .reg [⟨(some 44), .bin .add (.t 18) (.k (.I 1)), none⟩,
  ⟨(some 18), .mv (.t 44), none⟩] false
abbrev c14_28 : AC := .seq c14_26 c14_27
abbrev c14_29 : AC := .seq c14_5 c14_28
abbrev c14_30 : AC := .seq c14_4 c14_29
abbrev c14_31 : AC := .loop c14_30
abbrev c14_32 : AC := .block 0 c14_31
abbrev c14_33 : AC := .seq c14_3 c14_32
abbrev c14_34 : AC := .reg [⟨(some 45), .mv (.t 5), none⟩,
  ⟨(some 4), .mv (.t 45), none⟩] false
abbrev c14_35 : AC := .seq c14_34 .ret
abbrev c14_36 : AC := .seq c14_33 c14_35
abbrev c14_37 : AC := .seq c14_2 c14_36
abbrev c14_38 : AC := .seq c14_1 c14_37
abbrev c14 : AC := c14_38
theorem code14 : fnCode Try.prog 14 = some (c14, [4], 46) := by kernel_rfl
/- slices.Reverse[[]int,int] -/
abbrev c16_1 : AC := .reg [⟨(some 4), .mv (.t 0), none⟩,
  ⟨(some 5), .len (.t 4), none⟩,
  ⟨(some 6), .bin .sub (.t 5) (.k (.I 1)), none⟩,
  ⟨(some 2), .mv (.k (.I 0)), none⟩,
  ⟨(some 3), .mv (.t 6), none⟩] false
abbrev c16_2 : AC := .reg [⟨(some 7), .mv (.t 2), none⟩,
  ⟨(some 8), .mv (.t 3), none⟩,
  ⟨(some 9), .bin .lss (.t 7) (.t 8), none⟩] false
abbrev c16_3 : AC := .cond (.t 9) .skip (.exit 0)
abbrev c16_4 : AC := .seq c16_2 c16_3
abbrev c16_5 : AC := .regX (.first ⟨(some 14), .mv (.t 0), none⟩
  (.first ⟨(some 15), .mv (.t 2), none⟩
  (.first ⟨(some 16), .mv (.t 0), none⟩
  (.first ⟨(some 17), .mv (.t 3), none⟩
  (.first ⟨(some 18), .mv (.t 0), none⟩
  (.first ⟨(some 19), .mv (.t 3), none⟩
  (.first ⟨(some 20), .iad 1 (.t 18) (.t 19), none⟩
  (.first ⟨(some 22), .mv (.t 0), none⟩
  (.first ⟨(some 23), .mv (.t 2), none⟩
  (.first ⟨(some 24), .iad 1 (.t 22) (.t 23), none⟩
  (.fork ⟨(some 21), .ld none (.t 20), none⟩
  (.fork ⟨(some 25), .ld none (.t 24), none⟩
  (.first ⟨(some 26), .iad 1 (.t 14) (.t 15), none⟩
  (.fork ⟨none, .st none (.t 26) (.t 21), none⟩
  (.first ⟨(some 27), .iad 1 (.t 16) (.t 17), none⟩
  (.fork ⟨none, .st none (.t 27) (.t 25), none⟩
  .done
  .nope))
  .nope))
  .nope)
  (.fork ⟨(some 25), .ld none (.t 24), none⟩
  (.fork ⟨(some 21), .ld none (.t 20), none⟩
  (.first ⟨(some 26), .iad 1 (.t 14) (.t 15), none⟩
  (.fork ⟨none, .st none (.t 26) (.t 21), none⟩
  (.first ⟨(some 27), .iad 1 (.t 16) (.t 17), none⟩
  (.fork ⟨none, .st none (.t 27) (.t 25), none⟩
  .done
  .nope))
  .nope))
  .nope)
  .nope))))))))))))
abbrev c16_6 : AC := .block 1 c16_5
abbrev c16_7 : AC := .reg [⟨(some 10), .mv (.t 2), none⟩,
  ⟨(some 11), .bin .add (.t 10) (.k (.I 1)), none⟩,
  ⟨(some 12), .mv (.t 3), none⟩,
  ⟨(some 13), .bin .sub (.t 12) (.k (.I 1)), none⟩,
  ⟨(some 2), .mv (.t 11), none⟩,
  ⟨(some 3), .mv (.t 13), none⟩] false
abbrev c16_8 : AC := .seq c16_6 c16_7
abbrev c16_9 : AC := .seq c16_4 c16_8
abbrev c16_10 : AC := .loop c16_9
abbrev c16_11 : AC := .block 0 c16_10
abbrev c16_12 : AC := .seq c16_1 c16_11
abbrev c16 : AC := c16_12
theorem code16 : fnCode Try.prog 16 = some (c16, [], 28) := by kernel_rfl
/- (*coinage/seriation.search).place -/
abbrev c17_1 : AC := .reg [⟨(some 11), .mv (.t 0), none⟩,
  ⟨(some 12), .nilck (.t 11), none⟩,
  ⟨(some 13), .fad 5 (.t 12), none⟩,
  ⟨(some 14), .ld none (.t 13), none⟩,
  ⟨(some 15), .bin .geq (.t 14) (.k (.I 0)), none⟩,
  ⟨(some 16), .mv (.t 15), none⟩,
  ⟨(some 17), .mv (.t 2), (some (16, true))⟩,
  ⟨(some 18), .mv (.t 0), (some (16, true))⟩,
  ⟨(some 19), .nilck (.t 18), (some (16, true))⟩,
  ⟨(some 20), .fad 5 (.t 19), (some (16, true))⟩,
  ⟨(some 21), .ld none (.t 20), (some (16, true))⟩,
  ⟨(some 22), .bin .geq (.t 17) (.t 21), (some (16, true))⟩,
  ⟨(some 23), .pick (.t 16) (.t 22) (.k (.B false)), none⟩] false
abbrev c17_2 : AC := .cond (.t 23) .ret .skip
abbrev c17_3 : AC := .seq c17_1 c17_2
abbrev c17_4 : AC := .regD [(⟨(some 24), .mv (.t 0), none⟩, [0]),
  (⟨(some 25), .nilck (.t 24), none⟩, [24]),
  (⟨(some 26), .fad 2 (.t 25), none⟩, [25]),
  (⟨(some 27), .ld none (.t 26), none⟩, [26]),
  (⟨(some 28), .len (.t 27), none⟩, [27]),
  (⟨(some 29), .mv (.t 0), none⟩, [0]),
  (⟨(some 30), .nilck (.t 29), none⟩, [29]),
  (⟨(some 31), .fad 0 (.t 30), none⟩, [30]),
  (⟨(some 32), .ld none (.t 31), none⟩, [31]),
  (⟨(some 33), .bin .eql (.t 28) (.t 32), none⟩, [28, 32])]
abbrev c17_5 : AC := .reg [⟨(some 34), .mv (.t 0), none⟩,
  ⟨(some 35), .mv (.t 0), none⟩,
  ⟨(some 36), .mv (.t 0), none⟩,
  ⟨(some 37), .nilck (.t 36), none⟩,
  ⟨(some 38), .fad 2 (.t 37), none⟩,
  ⟨(some 39), .ld none (.t 38), none⟩,
  ⟨(some 40), .call 15 [(.t 39)], none⟩,
  ⟨(some 41), .mv (.t 2), none⟩,
  ⟨(some 42), .nilck (.t 34), none⟩,
  ⟨(some 43), .fad 4 (.t 42), none⟩,
  ⟨none, .st none (.t 43) (.t 40), none⟩,
  ⟨(some 44), .nilck (.t 35), none⟩,
  ⟨(some 45), .fad 5 (.t 44), none⟩,
  ⟨none, .st none (.t 45) (.t 41), none⟩] false
abbrev c17_6 : AC := .seq c17_5 .ret
abbrev c17_7 : AC := .cond (.t 33) c17_6 .skip
abbrev c17_8 : AC := .seq c17_4 c17_7
abbrev c17_9 : AC := .reg [⟨(some 46), .mv (.t 0), none⟩,
  ⟨(some 47), .nilck (.t 46), none⟩,
  ⟨(some 48), .fad 0 (.t 47), none⟩,
  ⟨(some 49), .ld none (.t 48), none⟩,
  ⟨(some 50), .mv (.k (.I 0)), none⟩] false
abbrev c17_10 : AC := .reg [⟨(some 51), .bin .lss (.t 50) (.t 49), none⟩] false
abbrev c17_11 : AC := .cond (.t 51) .skip (.exit 0)
abbrev c17_12 : AC := .reg [⟨(some 52), .mv (.t 50), none⟩,
  ⟨(some 6), .mv (.t 52), none⟩] false
abbrev c17_13 : AC := .reg [⟨(some 53), .mv (.t 0), none⟩,
  ⟨(some 54), .nilck (.t 53), none⟩,
  ⟨(some 55), .fad 3 (.t 54), none⟩,
  ⟨(some 56), .ld none (.t 55), none⟩,
  ⟨(some 57), .mv (.t 6), none⟩,
  ⟨(some 58), .iad 1 (.t 56) (.t 57), none⟩,
  ⟨(some 59), .ld none (.t 58), none⟩] false
abbrev c17_14 : AC := .cond (.t 59) (.exit 1) .skip
abbrev c17_15 : AC := .seq c17_13 c17_14
abbrev c17_16 : AC := .reg [⟨(some 60), .mv (.t 1), none⟩,
  ⟨(some 61), .call 15 [(.t 60)], none⟩,
  ⟨(some 62), .mv (.t 2), none⟩,
  ⟨(some 7), .mv (.t 61), none⟩,
  ⟨(some 8), .mv (.t 62), none⟩] false
abbrev c17_17 : AC := .reg [⟨(some 63), .mv (.t 0), none⟩,
  ⟨(some 64), .nilck (.t 63), none⟩,
  ⟨(some 65), .fad 1 (.t 64), none⟩,
  ⟨(some 66), .ld none (.t 65), none⟩,
  ⟨(some 67), .len (.t 66), none⟩,
  ⟨(some 68), .mv (.k (.I 0)), none⟩] false
abbrev c17_18 : AC := .reg [⟨(some 69), .bin .lss (.t 68) (.t 67), none⟩] false
abbrev c17_19 : AC := .cond (.t 69) .skip (.exit 2)
abbrev c17_20 : AC := .reg [⟨(some 70), .mv (.t 68), none⟩,
  ⟨(some 71), .iad 1 (.t 66) (.t 68), none⟩,
  ⟨(some 72), .ld none (.t 71), none⟩,
  ⟨(some 9), .mv (.t 70), none⟩,
  ⟨(some 10), .mv (.t 72), none⟩] false
abbrev c17_21 : AC := .regD [(⟨(some 73), .mv (.t 10), none⟩, [10]),
  (⟨(some 74), .mv (.t 6), none⟩, [6]),
  (⟨(some 75), .iad 1 (.t 73) (.t 74), none⟩, [73, 74]),
  (⟨(some 76), .ld none (.t 75), none⟩, [75]),
  (⟨(some 77), .not (.t 76), none⟩, [76]),
  (⟨(some 78), .mv (.t 77), none⟩, [77]),
  (⟨(some 79), .mv (.t 0), (some (78, false))⟩, [0, 78]),
  (⟨(some 80), .nilck (.t 79), (some (78, false))⟩, [79, 78]),
  (⟨(some 81), .fad 2 (.t 80), (some (78, false))⟩, [80, 78]),
  (⟨(some 82), .ld none (.t 81), (some (78, false))⟩, [81, 78]),
  (⟨(some 83), .len (.t 82), (some (78, false))⟩, [82, 78]),
  (⟨(some 84), .bin .gtr (.t 83) (.k (.I 0)), (some (78, false))⟩, [83, 78]),
  (⟨(some 85), .mv (.t 84), (some (78, false))⟩, [84, 78]),
  (⟨(some 86), .mv (.t 10), (some (85, true))⟩, [10, 85]),
  (⟨(some 87), .mv (.t 0), (some (85, true))⟩, [0, 85]),
  (⟨(some 88), .nilck (.t 87), (some (85, true))⟩, [87, 85]),
  (⟨(some 89), .fad 2 (.t 88), (some (85, true))⟩, [88, 85]),
  (⟨(some 90), .ld none (.t 89), (some (85, true))⟩, [89, 85]),
  (⟨(some 91), .mv (.t 0), (some (85, true))⟩, [0, 85]),
  (⟨(some 92), .nilck (.t 91), (some (85, true))⟩, [91, 85]),
  (⟨(some 93), .fad 2 (.t 92), (some (85, true))⟩, [92, 85]),
  (⟨(some 94), .ld none (.t 93), (some (85, true))⟩, [93, 85]),
  (⟨(some 95), .len (.t 94), (some (85, true))⟩, [94, 85]),
  (⟨(some 96), .bin .sub (.t 95) (.k (.I 1)), (some (85, true))⟩, [95, 85]),
  (⟨(some 97), .iad 1 (.t 90) (.t 96), (some (85, true))⟩, [90, 96, 85]),
  (⟨(some 98), .ld none (.t 97), (some (85, true))⟩, [97, 85]),
  (⟨(some 99), .iad 1 (.t 86) (.t 98), (some (85, true))⟩, [86, 98, 85]),
  (⟨(some 100), .ld none (.t 99), (some (85, true))⟩, [99, 85]),
  (⟨(some 101), .pick (.t 85) (.t 100) (.k (.B false)), (some (78, false))⟩, [85, 100, 78]),
  (⟨(some 102), .pick (.t 78) (.k (.B true)) (.t 101), none⟩, [78, 101])]
abbrev c17_22 : AC := .cond (.t 102) (.exit 3) .skip
abbrev c17_23 : AC := .seq c17_21 c17_22
abbrev c17_24 : AC := .reg [⟨(some 103), .mv (.t 7), none⟩,
  ⟨(some 104), .mv (.t 9), none⟩,
  ⟨(some 105), .iad 1 (.t 103) (.t 104), none⟩,
  ⟨(some 106), .ld none (.t 105), none⟩,
  ⟨(some 107), .bin .add (.t 106) (.k (.I 1)), none⟩,
  ⟨(some 108), .iad 1 (.t 103) (.t 104), none⟩,
  ⟨none, .st none (.t 108) (.t 107), none⟩] false
abbrev c17_25 : AC := .reg [⟨(some 109), .mv (.t 7), none⟩,
  ⟨(some 110), .mv (.t 9), none⟩,
  ⟨(some 111), .iad 1 (.t 109) (.t 110), none⟩,
  ⟨(some 112), .ld none (.t 111), none⟩,
  ⟨(some 113), .bin .gtr (.t 112) (.k (.I 1)), none⟩] false
abbrev c17_26 : AC := .reg [⟨(some 114), .mv (.t 8), none⟩,
  ⟨(some 115), .bin .add (.t 114) (.k (.I 1)), none⟩,
  ⟨(some 8), .mv (.t 115), none⟩] false
abbrev c17_27 : AC := .cond (.t 113) c17_26 .skip
abbrev c17_28 : AC := .seq c17_25 c17_27
abbrev c17_29 : AC := .seq c17_24 c17_28
abbrev c17_30 : AC := .seq c17_23 c17_29
abbrev c17_31 : AC := .seq c17_20 c17_30
abbrev c17_32 : AC := .block 3 c17_31
abbrev c17_33 : AC := .reg [⟨(some 116), .bin .add (.t 68) (.k (.I 1)), none⟩,
  ⟨(some 68), .mv (.t 116), none⟩] false
abbrev c17_34 : AC := .seq c17_32 c17_33
abbrev c17_35 : AC := .seq c17_19 c17_34
abbrev c17_36 : AC := .seq c17_18 c17_35
abbrev c17_37 : AC := .loop c17_36
abbrev c17_38 : AC := .block 2 c17_37
abbrev c17_39 : AC := .seq c17_17 c17_38
abbrev c17_40 : AC := .reg [⟨(some 117), .mv (.t 0), none⟩,
  ⟨(some 118), .nilck (.t 117), none⟩,
  ⟨(some 119), .fad 3 (.t 118), none⟩,
  ⟨(some 120), .ld none (.t 119), none⟩,
  ⟨(some 121), .mv (.t 6), none⟩,
  ⟨(some 122), .iad 1 (.t 120) (.t 121), none⟩,
  ⟨none, .st none (.t 122) (.k (.B true)), none⟩] false
abbrev c17_41 : AC := .reg [⟨(some 123), .mv (.t 0), none⟩,
  ⟨(some 124), .mv (.t 0), none⟩,
  ⟨(some 125), .nilck (.t 124), none⟩,
  ⟨(some 126), .fad 2 (.t 125), none⟩,
  ⟨(some 127), .ld none (.t 126), none⟩,
  ⟨(some 128), .mv (.t 6), none⟩,
  ⟨(some 129), .bslice 3 1 [(.t 128)], none⟩,
  ⟨(some 130), .app 3 1 8 (.t 127) (.t 129), none⟩,
  ⟨(some 131), .nilck (.t 123), none⟩,
  ⟨(some 132), .fad 2 (.t 131), none⟩,
  ⟨none, .st none (.t 132) (.t 130), none⟩] false
abbrev c17_42 : AC := .reg [⟨(some 133), .mv (.t 0), none⟩,
  ⟨(some 134), .mv (.t 7), none⟩,
  ⟨(some 135), .mv (.t 8), none⟩,
  ⟨(some 136), .call 17 [(.t 133), (.t 134), (.t 135)], none⟩] false
abbrev c17_43 : AC := .regX (.first ⟨(some 137), .mv (.t 0), none⟩
  (.first ⟨(some 138), .mv (.t 0), none⟩
  (.first ⟨(some 139), .nilck (.t 138), none⟩
  (.first ⟨(some 140), .fad 2 (.t 139), none⟩
  (.first ⟨(some 142), .mv (.t 0), none⟩
  (.first ⟨(some 143), .nilck (.t 142), none⟩
  (.first ⟨(some 144), .fad 2 (.t 143), none⟩
  (.fork ⟨(some 141), .ld none (.t 140), none⟩
  (.fork ⟨(some 145), .ld none (.t 144), none⟩
  (.first ⟨(some 146), .len (.t 145), none⟩
  (.first ⟨(some 147), .bin .sub (.t 146) (.k (.I 1)), none⟩
  (.fork ⟨(some 148), .slc 1 (.t 141) none (some (.t 147)), none⟩
  (.first ⟨(some 149), .nilck (.t 137), none⟩
  (.first ⟨(some 150), .fad 2 (.t 149), none⟩
  (.fork ⟨none, .st none (.t 150) (.t 148), none⟩
  .done
  .nope)))
  .nope)))
  .nope)
  (.fork ⟨(some 145), .ld none (.t 144), none⟩
  (.first ⟨(some 146), .len (.t 145), none⟩
  (.first ⟨(some 147), .bin .sub (.t 146) (.k (.I 1)), none⟩
  (.fork ⟨(some 141), .ld none (.t 140), none⟩
  (.fork ⟨(some 148), .slc 1 (.t 141) none (some (.t 147)), none⟩
  (.first ⟨(some 149), .nilck (.t 137), none⟩
  (.first ⟨(some 150), .fad 2 (.t 149), none⟩
  (.fork ⟨none, .st none (.t 150) (.t 148), none⟩
  .done
  .nope)))
  .nope)
  .nope)))
  .nope)))))))))
abbrev c17_44 : AC := .reg [⟨(some 151), .mv (.t 0), none⟩,
  ⟨(some 152), .nilck (.t 151), none⟩,
  ⟨(some 153), .fad 3 (.t 152), none⟩,
  ⟨(some 154), .ld none (.t 153), none⟩,
  ⟨(some 155), .mv (.t 6), none⟩,
  ⟨(some 156), .iad 1 (.t 154) (.t 155), none⟩,
  ⟨none, .st none (.t 156) (.k (.B false)), none⟩] false
abbrev c17_45 : AC := .seq c17_43 c17_44
abbrev c17_46 : AC := .seq c17_42 c17_45
abbrev c17_47 : AC := .seq c17_41 c17_46
abbrev c17_48 : AC := .seq c17_40 c17_47
abbrev c17_49 : AC := .seq c17_39 c17_48
abbrev c17_50 : AC := .seq c17_16 c17_49
abbrev c17_51 : AC := .seq c17_15 c17_50
abbrev c17_52 : AC := .seq c17_12 c17_51
abbrev c17_53 : AC := .block 1 c17_52
abbrev c17_54 : AC := .reg [⟨(some 157), .bin .add (.t 50) (.k (.I 1)), none⟩,
  ⟨(some 50), .mv (.t 157), none⟩] false
abbrev c17_55 : AC := .seq c17_53 c17_54
abbrev c17_56 : AC := .seq c17_11 c17_55
abbrev c17_57 : AC := .seq c17_10 c17_56
abbrev c17_58 : AC := .loop c17_57
abbrev c17_59 : AC := .block 0 c17_58
abbrev c17_60 : AC := .seq c17_9 c17_59
abbrev c17_61 : AC := .seq c17_8 c17_60
abbrev c17_62 : AC := .seq c17_3 c17_61
abbrev c17 : AC := c17_62
theorem code17 : fnCode Try.prog 17 = some (c17, [], 158) := by kernel_rfl


end Go.Proofs.Ytciglfmfemidnaa

-- P p_30s.txt
open Go Go.AL Go.RowKit
namespace Go.Proofs.Ytciglfmfemidnaa
set_option maxRecDepth 20000
/-! ### which columns a row has -/
def inB (n : Nat) (r : List Int) : List Bool := (List.range n).map fun (c : Nat) => decide ((c : Int) ∈ r)
abbrev BRow (l : List Bool) : CD := .sl 1 (l.map fun b => [CD.B b])
abbrev BTab (n : Nat) (t : List (List Int)) : CD := .sl 1 (t.map fun r => [BRow (inB n r)])
theorem inB_len (n : Nat) (r : List Int) : (inB n r).length = n := by simp [inB]
theorem inB_nth {n : Nat} {r : List Int} {c : Nat} (h : c < n) : nth (inB n r) c = decide ((c : Int) ∈ r) := by
  rw [nth_eq _ c (by rw [inB_len]; exact h)]; simp [inB]
theorem inB_nil (n : Nat) : (inB n []).map (fun b => [CD.B b]) = List.replicate n [CD.B false] := by
  refine List.ext_getElem (by simp [inB_len]) fun i h1 h2 => ?_
  simp [inB]
theorem bset (l : List Bool) (i : Nat) (v : Bool) : (l.map fun x => [CD.B x]).set i [CD.B v] = (l.set i v).map fun x => [CD.B x] := by rw [List.map_set]
theorem inB_step (n : Nat) (r : List Int) (j : Nat) (hj : j < r.length) (h0 : 0 ≤ nth r j) : (inB n (r.take j)).set (nth r j).toNat true = inB n (r.take (j + 1)) := by
  refine List.ext_getElem (by simp [inB_len]) fun i h1 h2 => ?_
  rw [List.getElem_set]
  simp only [inB, List.getElem_map, List.getElem_range]
  rw [List.take_succ_eq_append_getElem hj, ← nth_eq r j hj]
  by_cases e : (nth r j).toNat = i
  · rw [if_pos e]
    symm
    simp
    right; omega
  · rw [if_neg e]
    simp
    omega
theorem hold35 {Q : Exit → St → Prop} {σ : St} (h : Hold (AW Try.prog c14_35 Q σ)) : AW Try.prog c14_35 Q σ := h.out
theorem w35 (n : Int) (t : List (List Int)) (hn : 0 ≤ n ∧ n ≤ 1000) (ht : t.length ≤ 1000) (hr : ∀ i, i < t.length → (nth t i).length ≤ 1000 ∧ ∀ x ∈ nth t i, 0 ≤ x ∧ x < n) :
    FnP Try.prog 14 [.I n, .c (Tab t)] [] 15 [(15, .box 44 [.I n, .c (BTab n.toNat t), .c .nil, .own 13, .c .nil, .I (-1)]), (13, .arr 4 1 (List.replicate n.toNat [CD.B false]))] [] := by
  refine fn_walkP code14 (by simp) (by rfl) ⟨_, rfl⟩ ?_
  (repeat' (first | refine NextAt.mk (fun hc => ?_) (fun pre n v post hc hkey => ?_) | refine Sni.mk (fun hc => ?_) ?_ | refine Both.mk ?_ ?_ | refine AW_seq ?_ | refine AW_block ?_ | ((first | refine AW_reg ?_ | refine AW_cond ?_ | refine AW_skip ?_ | refine AW_exit ?_ | refine AW_ret ?_ | refine AW_regD (by kernel_rfl) ?_ | refine AW_regX (by kernel_rfl) ?_ | refine CallAtG.t (Eq.refl true) ?_ | refine CallAtG.f (Eq.refl false) ?_); try simp (disch := omega) only [go_sem, seval, reduceCtorEq, ↓reduceIte, beq_dec, Int.toNat_natCast, IntKind.signed, IntKind.bits, maxLen]) | refine And.intro (fun hc => (?_ : AW _ _ _ _)) (fun hc => (?_ : AW _ _ _ _)) | simp (disch := omega) only [go_sem, seval, reduceCtorEq, ↓reduceIte, beq_dec, Int.toNat_natCast, IntKind.signed, IntKind.bits, maxLen] | (refine And.intro ?_ ?_; focus (first | (intros; omega) | (intros; simp_all; done))) | refine And.intro (?_ : CallAt _ _ _ _ _ _ _ _) ?_ | refine And.intro (?_ : CallAt _ _ _ _ _ _ _ _ ∧ _) ?_ | refine And.intro (?_ : AW _ _ _ _) ?_ | fail))
  refine AW_nilB 15 1 901 39 1 44 _ rfl rfl ?_
  simp (disch := omega) only [go_sem, seval, reduceCtorEq, ↓reduceIte, beq_dec, Int.toNat_natCast, IntKind.signed, IntKind.bits]
  refine AW_loopK [0, 5, 16, 17] [7, 8, 10, 18, 19, 20, 21, 22, 23, 24, 25, 26, 27, 28, 29, 30, 31, 32, 33, 34, 35, 36, 37, 38, 39, 40, 41, 42, 43, 44] (fun i : Nat => i ≤ t.length) (fun i => [(18, .I i)]) (fun i => [(15, .box 44 [.I n, .own 901, .c .nil, .own 13, .c .nil, .I (-1)]), (901, .arr 39 1 ((t.take i).map fun r => [BRow (inB n.toNat r)]))]) (fun i => t.length - i) 0 (by omega) ?_ ?_
  · simp (disch := omega) only [go_sem, seval, reduceCtorEq, ↓reduceIte, beq_dec, Int.toNat_natCast, IntKind.signed, IntKind.bits, Int.natCast_zero, List.take_zero, List.map_nil]
  · rintro i hi
    have hri := hr i
    by_cases hil : i < t.length
    case neg =>
      have hd : decide ((i : Int) < (t.length : Int)) = false := decide_eq_false (by omega)
      obtain rfl : i = t.length := by omega
      (repeat' (first | (with_reducible refine hold35 ?_; try simp (disch := omega) only [go_sem, seval, reduceCtorEq, ↓reduceIte, beq_dec, Int.toNat_natCast, IntKind.signed, IntKind.bits, hd]) | refine NextAt.mk (fun hc => ?_) (fun pre n v post hc hkey => ?_) | refine Sni.mk (fun hc => ?_) ?_ | refine Both.mk ?_ ?_ | refine AW_seq ?_ | refine AW_block ?_ | ((first | refine AW_reg ?_ | refine AW_cond ?_ | refine AW_skip ?_ | refine AW_exit ?_ | refine AW_ret ?_ | refine AW_regD (by kernel_rfl) ?_ | refine AW_regX (by kernel_rfl) ?_ | refine CallAtG.t (Eq.refl true) ?_ | refine CallAtG.f (Eq.refl false) ?_); try simp (disch := omega) only [go_sem, seval, reduceCtorEq, ↓reduceIte, beq_dec, Int.toNat_natCast, IntKind.signed, IntKind.bits, hd]) | refine And.intro (fun hc => (?_ : AW _ _ _ _)) (fun hc => (?_ : AW _ _ _ _)) | simp (disch := omega) only [go_sem, seval, reduceCtorEq, ↓reduceIte, beq_dec, Int.toNat_natCast, IntKind.signed, IntKind.bits, hd] | (refine And.intro ?_ ?_; focus (first | (intros; omega) | (intros; simp_all; done))) | refine And.intro (?_ : CallAt _ _ _ _ _ _ _ _) ?_ | refine And.intro (?_ : CallAt _ _ _ _ _ _ _ _ ∧ _) ?_ | refine And.intro (?_ : AW _ _ _ _) ?_ | fail))
      refine Hold.mk ?_
      refine AW_frz [901] ?_
      rw [List.take_length]
      simp (disch := omega) only [go_sem, seval, reduceCtorEq, ↓reduceIte, beq_dec, Int.toNat_natCast, IntKind.signed, IntKind.bits]
      (repeat' (first | refine NextAt.mk (fun hc => ?_) (fun pre n v post hc hkey => ?_) | refine Sni.mk (fun hc => ?_) ?_ | refine Both.mk ?_ ?_ | refine AW_seq ?_ | refine AW_block ?_ | ((first | refine AW_reg ?_ | refine AW_cond ?_ | refine AW_skip ?_ | refine AW_exit ?_ | refine AW_ret ?_ | refine AW_regD (by kernel_rfl) ?_ | refine AW_regX (by kernel_rfl) ?_ | refine CallAtG.t (Eq.refl true) ?_ | refine CallAtG.f (Eq.refl false) ?_); try simp (disch := omega) only [go_sem, seval, reduceCtorEq, ↓reduceIte, beq_dec, Int.toNat_natCast, IntKind.signed, IntKind.bits]) | refine And.intro (fun hc => (?_ : AW _ _ _ _)) (fun hc => (?_ : AW _ _ _ _)) | simp (disch := omega) only [go_sem, seval, reduceCtorEq, ↓reduceIte, beq_dec, Int.toNat_natCast, IntKind.signed, IntKind.bits] | (refine And.intro ?_ ?_; focus (first | (intros; omega) | (intros; simp_all; done))) | refine And.intro (?_ : CallAt _ _ _ _ _ _ _ _) ?_ | refine And.intro (?_ : CallAt _ _ _ _ _ _ _ _ ∧ _) ?_ | refine And.intro (?_ : AW _ _ _ _) ?_ | fail))
    case pos =>
      have hd : decide ((i : Int) < (t.length : Int)) = true := decide_eq_true (by omega)
      obtain ⟨hrl, hrx⟩ := hri hil
      (repeat' (first | refine NextAt.mk (fun hc => ?_) (fun pre n v post hc hkey => ?_) | refine Sni.mk (fun hc => ?_) ?_ | refine Both.mk ?_ ?_ | refine AW_seq ?_ | refine AW_block ?_ | ((first | refine AW_reg ?_ | refine AW_cond ?_ | refine AW_skip ?_ | refine AW_exit ?_ | refine AW_ret ?_ | refine AW_regD (by kernel_rfl) ?_ | refine AW_regX (by kernel_rfl) ?_ | refine CallAtG.t (Eq.refl true) ?_ | refine CallAtG.f (Eq.refl false) ?_); try simp (disch := omega) only [go_sem, seval, reduceCtorEq, ↓reduceIte, beq_dec, Int.toNat_natCast, IntKind.signed, IntKind.bits, hd, maxLen, getD_map (fun r : List Int => [Row r])]) | refine And.intro (fun hc => (?_ : AW _ _ _ _)) (fun hc => (?_ : AW _ _ _ _)) | simp (disch := omega) only [go_sem, seval, reduceCtorEq, ↓reduceIte, beq_dec, Int.toNat_natCast, IntKind.signed, IntKind.bits, hd, maxLen, getD_map (fun r : List Int => [Row r])] | (refine And.intro ?_ ?_; focus (first | (intros; omega) | (intros; simp_all; done))) | refine And.intro (?_ : CallAt _ _ _ _ _ _ _ _) ?_ | refine And.intro (?_ : CallAt _ _ _ _ _ _ _ _ ∧ _) ?_ | refine And.intro (?_ : AW _ _ _ _) ?_ | fail))
      generalize hR : nth t i = R at *
      refine AW_loopK [0, 5, 8, 16, 17, 18, 24, 25] [10, 26, 27, 28, 29, 30, 31, 32, 33] (fun j : Nat => j ≤ R.length) (fun j => [(26, .I j)]) (fun j => [(23, .arr 4 1 ((inB n.toNat (R.take j)).map fun b => [CD.B b]))]) (fun j => R.length - j) 0 (by omega) ?_ ?_
      · simp (disch := omega) only [go_sem, seval, reduceCtorEq, ↓reduceIte, beq_dec, Int.toNat_natCast, IntKind.signed, IntKind.bits, Int.natCast_zero, List.take_zero, inB_nil]
      · rintro j hj
        have hbl := inB_len n.toNat (R.take j)
        have hx := fun h => hrx (nth R j) (nth_mem R j h)
        (repeat' (first | refine NextAt.mk (fun hc => ?_) (fun pre n v post hc hkey => ?_) | refine Sni.mk (fun hc => ?_) ?_ | refine Both.mk ?_ ?_ | refine AW_seq ?_ | refine AW_block ?_ | ((first | refine AW_reg ?_ | refine AW_cond ?_ | refine AW_skip ?_ | refine AW_exit ?_ | refine AW_ret ?_ | refine AW_regD (by kernel_rfl) ?_ | refine AW_regX (by kernel_rfl) ?_ | refine CallAtG.t (Eq.refl true) ?_ | refine CallAtG.f (Eq.refl false) ?_); try simp (disch := omega) only [go_sem, seval, reduceCtorEq, ↓reduceIte, beq_dec, Int.toNat_natCast, IntKind.signed, IntKind.bits, maxLen, getD_map (fun x : Int => [CD.I x]), hbl, List.length_take]) | refine And.intro (fun hc => (?_ : AW _ _ _ _)) (fun hc => (?_ : AW _ _ _ _)) | simp (disch := omega) only [go_sem, seval, reduceCtorEq, ↓reduceIte, beq_dec, Int.toNat_natCast, IntKind.signed, IntKind.bits, maxLen, getD_map (fun x : Int => [CD.I x]), hbl, List.length_take] | (refine And.intro ?_ ?_; focus (first | (intros; omega) | (intros; simp_all; done))) | refine And.intro (?_ : CallAt _ _ _ _ _ _ _ _) ?_ | refine And.intro (?_ : CallAt _ _ _ _ _ _ _ _ ∧ _) ?_ | refine And.intro (?_ : AW _ _ _ _) ?_ | fail))
        · refine .mk (j + 1) (by omega) (by omega) ?_
          have hxx := hx (by omega)
          simp (disch := omega) only [go_sem, seval, reduceCtorEq, ↓reduceIte, beq_dec, Int.toNat_natCast, IntKind.signed, IntKind.bits, Int.natCast_add, Int.natCast_one, getD_map (fun b : Bool => [CD.B b]), bset, inB_step n.toNat R j (by omega) (hx (by omega)).1]
        · refine .mk (i + 1) (by omega) (by omega) ?_
          have ej : R.take j = R := List.take_of_length_le (by omega)
          have e : t.take (i + 1) = t.take i ++ [R] := by rw [List.take_succ_eq_append_getElem (by omega), ← nth_eq t i (by omega), hR]
          simp (disch := omega) only [go_sem, seval, reduceCtorEq, ↓reduceIte, beq_dec, Int.toNat_natCast, IntKind.signed, IntKind.bits, Int.natCast_add, Int.natCast_one, e, ej, List.map_append]
end Go.Proofs.Ytciglfmfemidnaa

