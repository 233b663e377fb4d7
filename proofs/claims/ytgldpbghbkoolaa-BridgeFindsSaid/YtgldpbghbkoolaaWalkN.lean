/-
  Lemmas for the proof: no statement of its own.
-/
import Derived.Test.YtgldpbghbkoolaaWalkM
import Derived.Test.YtgldpbghbkoolaaPlainG
import Derived.Test.YtgldpbghbkoolaaWalkI
import Derived.KernelRfl
set_option linter.unusedVariables false
set_option linter.unusedSimpArgs false
-- P p_15.txt
open Go Go.AL Go.RowKit
namespace Go.Proofs.Ytgldpbghbkoolaa
set_option maxRecDepth 20000
/- coinage/coinageref15.Bridges -/
abbrev c26_1 : AC := .reg [⟨(some 1), .box 25 (some 3) (.t 0), none⟩,
  ⟨(some 2), .mv (.k (.c .nil)), none⟩,
  ⟨(some 3), .mv (.k (.I 0)), none⟩] false
abbrev c26_2 : AC := .reg [⟨(some 10), .ld (some 3) (.t 1), none⟩,
  ⟨(some 11), .call 36 [(.t 10)], none⟩,
  ⟨(some 9), .mv (.t 11), none⟩,
  ⟨(some 12), .ext (.t 9) 0, none⟩,
  ⟨(some 13), .ext (.t 9) 1, none⟩,
  ⟨(some 4), .mv (.t 12), none⟩,
  ⟨(some 5), .mv (.t 13), none⟩] false
abbrev c26_3 : AC := .reg [⟨(some 14), .mv (.t 5), none⟩,
  ⟨(some 15), .bin .neq (.t 14) (.k (.I 0)), none⟩] false
abbrev c26_4 : AC := .reg [⟨(some 16), .mv (.t 5), none⟩,
  ⟨(some 2), .mv (.k (.c .nil)), none⟩,
  ⟨(some 3), .mv (.t 16), none⟩] false
abbrev c26_5 : AC := .seq c26_4 .ret
abbrev c26_6 : AC := .cond (.t 15) c26_5 .skip
abbrev c26_7 : AC := .seq c26_3 c26_6
abbrev c26_8 : AC := .reg [⟨(some 17), .mv (.t 4), none⟩,
  ⟨(some 18), .fad 2 (.t 1), none⟩,
  ⟨(some 19), .ld none (.t 18), none⟩,
  ⟨(some 20), .call 52 [(.t 17), (.t 19), (.k (.c .nil))], none⟩,
  ⟨(some 21), .call 51 [(.t 20)], none⟩,
  ⟨(some 6), .mv (.t 21), none⟩] false
abbrev c26_9 : AC := .reg [⟨(some 7), .mv (.k (.c .nil)), none⟩] false
abbrev c26_10 : AC := .reg [⟨(some 8), .mv (.k (.I 0)), none⟩] false
abbrev c26_11 : AC := .reg [⟨(some 22), .mv (.t 8), none⟩,
  ⟨(some 23), .fad 2 (.t 1), none⟩,
  ⟨(some 24), .ld none (.t 23), none⟩,
  ⟨(some 25), .len (.t 24), none⟩,
  ⟨(some 26), .bin .lss (.t 22) (.t 25), none⟩] false
abbrev c26_12 : AC := .cond (.t 26) .skip (.exit 0)
abbrev c26_13 : AC := .seq c26_11 c26_12
abbrev c26_14 : AC := .regD [(⟨(some 29), .mv (.t 4), none⟩, [4]),
  (⟨(some 30), .fad 2 (.t 1), none⟩, [1]),
  (⟨(some 31), .ld none (.t 30), none⟩, [30]),
  (⟨(some 32), .fad 2 (.t 1), none⟩, [1]),
  (⟨(some 33), .ld none (.t 32), none⟩, [32]),
  (⟨(some 34), .mv (.t 8), none⟩, [8]),
  (⟨(some 35), .iad 3 (.t 33) (.t 34), none⟩, [33, 34]),
  (⟨(some 36), .fad 0 (.t 35), none⟩, [35]),
  (⟨(some 37), .ld none (.t 36), none⟩, [36]),
  (⟨(some 38), .bslice 3 1 [(.t 37)], none⟩, [37]),
  (⟨(some 39), .call 52 [(.t 29), (.t 31), (.t 38)], none⟩, [29, 31, 38]),
  (⟨(some 40), .call 51 [(.t 39)], none⟩, [39]),
  (⟨(some 41), .mv (.t 6), none⟩, [6]),
  (⟨(some 42), .bin .gtr (.t 40) (.t 41), none⟩, [40, 41])]
abbrev c26_15 : AC := .reg [⟨(some 43), .mv (.t 7), none⟩,
  ⟨(some 44), .fad 2 (.t 1), none⟩,
  ⟨(some 45), .ld none (.t 44), none⟩,
  ⟨(some 46), .mv (.t 8), none⟩,
  ⟨(some 47), .iad 3 (.t 45) (.t 46), none⟩,
  ⟨(some 48), .fad 0 (.t 47), none⟩,
  ⟨(some 49), .ld none (.t 48), none⟩,
  ⟨(some 50), .bslice 3 1 [(.t 49)], none⟩,
  ⟨(some 51), .app 3 1 8 (.t 43) (.t 50), none⟩,
  ⟨(some 7), .mv (.t 51), none⟩] false
abbrev c26_16 : AC := .cond (.t 42) c26_15 .skip
abbrev c26_17 : AC := .seq c26_14 c26_16
abbrev c26_18 : AC := .block 1 c26_17
abbrev c26_19 : AC := .reg [⟨(some 27), .mv (.t 8), none⟩,
  ⟨(some 28), .bin .add (.t 27) (.k (.I 1)), none⟩,
  ⟨(some 8), .mv (.t 28), none⟩] false
abbrev c26_20 : AC := .seq c26_18 c26_19
abbrev c26_21 : AC := .seq c26_13 c26_20
abbrev c26_22 : AC := .loop c26_21
abbrev c26_23 : AC := .block 0 c26_22
abbrev c26_24 : AC := .seq c26_10 c26_23
abbrev c26_25 : AC := .reg [⟨(some 52), .mv (.t 7), none⟩,
  ⟨(some 2), .mv (.t 52), none⟩,
  ⟨(some 3), .mv (.k (.I 0)), none⟩] false
abbrev c26_26 : AC := .seq c26_25 .ret
abbrev c26_27 : AC := .seq c26_24 c26_26
abbrev c26_28 : AC := .seq c26_9 c26_27
abbrev c26_29 : AC := .seq c26_8 c26_28
abbrev c26_30 : AC := .seq c26_7 c26_29
abbrev c26_31 : AC := .seq c26_2 c26_30
abbrev c26_32 : AC := .seq c26_1 c26_31
abbrev c26 : AC := c26_32
theorem code26 : fnCode Try.prog 26 = some (c26, [2, 3], 53) := by kernel_rfl
/- coinage/coinageref15.Hinges -/
abbrev c27_1 : AC := .reg [⟨(some 1), .box 25 (some 3) (.t 0), none⟩,
  ⟨(some 2), .mv (.k (.c .nil)), none⟩,
  ⟨(some 3), .mv (.k (.I 0)), none⟩] false
abbrev c27_2 : AC := .reg [⟨(some 12), .ld (some 3) (.t 1), none⟩,
  ⟨(some 13), .call 36 [(.t 12)], none⟩,
  ⟨(some 11), .mv (.t 13), none⟩,
  ⟨(some 14), .ext (.t 11) 0, none⟩,
  ⟨(some 15), .ext (.t 11) 1, none⟩,
  ⟨(some 4), .mv (.t 14), none⟩,
  ⟨(some 5), .mv (.t 15), none⟩] false
abbrev c27_3 : AC := .reg [⟨(some 16), .mv (.t 5), none⟩,
  ⟨(some 17), .bin .neq (.t 16) (.k (.I 0)), none⟩] false
abbrev c27_4 : AC := .reg [⟨(some 18), .mv (.t 5), none⟩,
  ⟨(some 2), .mv (.k (.c .nil)), none⟩,
  ⟨(some 3), .mv (.t 18), none⟩] false
abbrev c27_5 : AC := .seq c27_4 .ret
abbrev c27_6 : AC := .cond (.t 17) c27_5 .skip
abbrev c27_7 : AC := .seq c27_3 c27_6
abbrev c27_8 : AC := .reg [⟨(some 19), .mv (.t 4), none⟩,
  ⟨(some 20), .fad 2 (.t 1), none⟩,
  ⟨(some 21), .ld none (.t 20), none⟩,
  ⟨(some 22), .call 52 [(.t 19), (.t 21), (.k (.c .nil))], none⟩,
  ⟨(some 23), .call 51 [(.t 22)], none⟩,
  ⟨(some 6), .mv (.t 23), none⟩] false
abbrev c27_9 : AC := .reg [⟨(some 7), .mv (.k (.c .nil)), none⟩] false
abbrev c27_10 : AC := .reg [⟨(some 8), .mv (.k (.I 0)), none⟩] false
abbrev c27_11 : AC := .reg [⟨(some 24), .mv (.t 8), none⟩,
  ⟨(some 25), .mv (.t 4), none⟩,
  ⟨(some 26), .len (.t 25), none⟩,
  ⟨(some 27), .bin .lss (.t 24) (.t 26), none⟩] false
abbrev c27_12 : AC := .cond (.t 27) .skip (.exit 0)
abbrev c27_13 : AC := .seq c27_11 c27_12
abbrev c27_14 : AC := .reg [⟨(some 9), .mv (.k (.c .nil)), none⟩] false
abbrev c27_15 : AC := .reg [⟨(some 10), .mv (.k (.I 0)), none⟩] false
abbrev c27_16 : AC := .reg [⟨(some 30), .mv (.t 10), none⟩,
  ⟨(some 31), .fad 2 (.t 1), none⟩,
  ⟨(some 32), .ld none (.t 31), none⟩,
  ⟨(some 33), .len (.t 32), none⟩,
  ⟨(some 34), .bin .lss (.t 30) (.t 33), none⟩] false
abbrev c27_17 : AC := .cond (.t 34) .skip (.exit 2)
abbrev c27_18 : AC := .seq c27_16 c27_17
abbrev c27_19 : AC := .regD [(⟨(some 37), .fad 2 (.t 1), none⟩, [1]),
  (⟨(some 38), .ld none (.t 37), none⟩, [37]),
  (⟨(some 39), .mv (.t 10), none⟩, [10]),
  (⟨(some 40), .iad 3 (.t 38) (.t 39), none⟩, [38, 39]),
  (⟨(some 41), .ld (some 3) (.t 40), none⟩, [40]),
  (⟨(some 42), .mv (.t 4), none⟩, [4]),
  (⟨(some 43), .mv (.t 8), none⟩, [8]),
  (⟨(some 44), .iad 2 (.t 42) (.t 43), none⟩, [42, 43]),
  (⟨(some 45), .ld (some 2) (.t 44), none⟩, [44]),
  (⟨(some 46), .call 47 [(.t 41), (.t 45)], none⟩, [41, 45])]
abbrev c27_20 : AC := .reg [⟨(some 47), .mv (.t 9), none⟩,
  ⟨(some 48), .fad 2 (.t 1), none⟩,
  ⟨(some 49), .ld none (.t 48), none⟩,
  ⟨(some 50), .mv (.t 10), none⟩,
  ⟨(some 51), .iad 3 (.t 49) (.t 50), none⟩,
  ⟨(some 52), .fad 0 (.t 51), none⟩,
  ⟨(some 53), .ld none (.t 52), none⟩,
  ⟨(some 54), .bslice 3 1 [(.t 53)], none⟩,
  ⟨(some 55), .app 3 1 8 (.t 47) (.t 54), none⟩,
  ⟨(some 9), .mv (.t 55), none⟩] false
abbrev c27_21 : AC := .cond (.t 46) c27_20 .skip
abbrev c27_22 : AC := .seq c27_19 c27_21
abbrev c27_23 : AC := .block 3 c27_22
abbrev c27_24 : AC := .reg [⟨(some 35), .mv (.t 10), none⟩,
  ⟨(some 36), .bin .add (.t 35) (.k (.I 1)), none⟩,
  ⟨(some 10), .mv (.t 36), none⟩] false
abbrev c27_25 : AC := .seq c27_23 c27_24
abbrev c27_26 : AC := .seq c27_18 c27_25
abbrev c27_27 : AC := .loop c27_26
abbrev c27_28 : AC := .block 2 c27_27
abbrev c27_29 : AC := .seq c27_15 c27_28
abbrev c27_30 : AC := .reg [⟨(some 56), .mv (.t 4), none⟩,
  ⟨(some 57), .fad 2 (.t 1), none⟩,
  ⟨(some 58), .ld none (.t 57), none⟩,
  ⟨(some 59), .mv (.t 9), none⟩,
  ⟨(some 60), .call 52 [(.t 56), (.t 58), (.t 59)], none⟩,
  ⟨(some 61), .call 51 [(.t 60)], none⟩,
  ⟨(some 62), .bin .sub (.t 61) (.k (.I 1)), none⟩,
  ⟨(some 63), .mv (.t 6), none⟩,
  ⟨(some 64), .bin .gtr (.t 62) (.t 63), none⟩] false
abbrev c27_31 : AC := .reg [⟨(some 65), .mv (.t 7), none⟩,
  ⟨(some 66), .mv (.t 4), none⟩,
  ⟨(some 67), .mv (.t 8), none⟩,
  ⟨(some 68), .iad 2 (.t 66) (.t 67), none⟩,
  ⟨(some 69), .ld (some 2) (.t 68), none⟩,
  ⟨(some 70), .bslice 27 2 [(.t 69)], none⟩,
  ⟨(some 71), .app 27 2 16 (.t 65) (.t 70), none⟩,
  ⟨(some 7), .mv (.t 71), none⟩] false
abbrev c27_32 : AC := .cond (.t 64) c27_31 .skip
abbrev c27_33 : AC := .seq c27_30 c27_32
abbrev c27_34 : AC := .seq c27_29 c27_33
abbrev c27_35 : AC := .seq c27_14 c27_34
abbrev c27_36 : AC := .block 1 c27_35
abbrev c27_37 : AC := .reg [⟨(some 28), .mv (.t 8), none⟩,
  ⟨(some 29), .bin .add (.t 28) (.k (.I 1)), none⟩,
  ⟨(some 8), .mv (.t 29), none⟩] false
abbrev c27_38 : AC := .seq c27_36 c27_37
abbrev c27_39 : AC := .seq c27_13 c27_38
abbrev c27_40 : AC := .loop c27_39
abbrev c27_41 : AC := .block 0 c27_40
abbrev c27_42 : AC := .seq c27_10 c27_41
abbrev c27_43 : AC := .reg [⟨(some 72), .mv (.t 7), none⟩,
  ⟨(some 2), .mv (.t 72), none⟩,
  ⟨(some 3), .mv (.k (.I 0)), none⟩] false
abbrev c27_44 : AC := .seq c27_43 .ret
abbrev c27_45 : AC := .seq c27_42 c27_44
abbrev c27_46 : AC := .seq c27_9 c27_45
abbrev c27_47 : AC := .seq c27_8 c27_46
abbrev c27_48 : AC := .seq c27_7 c27_47
abbrev c27_49 : AC := .seq c27_2 c27_48
abbrev c27_50 : AC := .seq c27_1 c27_49
abbrev c27 : AC := c27_50
theorem code27 : fnCode Try.prog 27 = some (c27, [2, 3], 73) := by kernel_rfl

noncomputable def ccG (g : Gr) (out : List Int) : Nat := cc (Jn (notIn out g.links)) (diesG g)
def laG (g : Gr) (out : List Int) : List Nat := labF (esD (diesG g) g.links) (goneL g.links out) (diesG g).length
theorem laG_len (g : Gr) (out : List Int) : (laG g out).length = (diesG g).length := labF_len _ _ _
theorem laG_spec {g : Gr} (hv : validG g = true) (out : List Int) {x y : Die} (hx : x ∈ diesG g) (hy : y ∈ diesG g) : nth (laG g out) (plN (diesG g) x) = nth (laG g out) (plN (diesG g) y) ↔ Jn (notIn out g.links) x y := lab_spec (valid_ends hv) (dies_nodup hv) hx hy
theorem n52g (g : Gr) (out : List Int) (hv : validG g = true) : FnR Try.prog 52 [.c (DL (diesG g)), .c (LL g.links), .c (Row out)] [.c (.sl 1 (iN (laG g out)))] := by
  have hsm := valid_small hv
  have hl := dies_len g
  exact n52 (diesG g) g.links out (by omega) (valid_ends hv) (by omega)
theorem n51g (g : Gr) (out : List Int) (hv : validG g = true) : FnR Try.prog 51 [.c (.sl 1 (iN (laG g out)))] [.c (.I (ccG g out))] := by
  have hsm := valid_small hv
  have hl := dies_len g
  have hla := laG_len g out
  have h := n51 (laG g out) (by omega)
  have e : cntI (laG g out) (laG g out).length = ccG g out := by
    rw [hla, cntI_cc (jn_eqv (notIn out g.links)) hla (dies_nodup hv) (fun x hx y hy => laG_spec hv out hx hy) _ (Nat.le_refl _), List.take_length]
    exact cc_perm (jn_eqv _) (List.reverse_perm _)
  rwa [e] at h
theorem cc_le {α : Type} (C : α → α → Prop) : ∀ l : List α, cc C l ≤ l.length
  | [] => Nat.le_refl _
  | x :: l => by
    have := cc_le C l
    have h1 : sg (¬ ∃ y ∈ l, C x y) ≤ 1 := by
      by_cases h : ¬ ∃ y ∈ l, C x y
      · rw [sg_pos h]; exact Nat.le_refl _
      · rw [sg_neg h]; omega
    simp only [cc, List.length_cons]; omega
theorem ccG_le (g : Gr) (out : List Int) : ccG g out ≤ g.obv.length + g.rev.length := by rw [← dies_len]; exact cc_le _ _
theorem brB_cc {g : Gr} (hv : validG g = true) {k : Nat} (hk : k < g.links.length) : brB (esG g) (nG g) k = decide (ccG g [] < ccG g [(nth g.links k).id]) := by
  unfold brB
  rw [decide_eq_decide, pt_count hv, pt_count hv]
  have h1 : cc (Jn (usedL g.links (fun _ => true) g.links.length)) (diesG g) = ccG g [] := cc_congr _ fun x _ y _ => (used_all g.links x y).trans (jn_set (fun x => by rw [notIn_mem]; simp) x y)
  have h2 : cc (Jn (usedL g.links (fun i => decide (i ≠ k)) g.links.length)) (diesG g) = ccG g [(nth g.links k).id] := cc_congr _ fun x _ y _ => used_one hv hk x y
  rw [h1, h2]; omega
theorem n26e (g : Gr) (hv : validG g = false) : FnR Try.prog 26 [g.av] [.c .nil, .c (.I 1)] := by
  have g37 := f37 g
  have e0 : errV g = 1 := by unfold errV; rw [hv]; rfl
  rw [e0] at g37
  refine fn_walk code26 (by simp) ?_
  (repeat' (first | refine NextAt.mk (fun hc => ?_) (fun pre n v post hc hkey => ?_) | refine Sni.mk (fun hc => ?_) ?_ | refine Both.mk ?_ ?_ | refine AW_seq ?_ | refine AW_block ?_ | ((first | refine AW_reg ?_ | refine AW_cond ?_ | refine AW_skip ?_ | refine AW_exit ?_ | refine AW_ret ?_ | refine AW_regD (by kernel_rfl) ?_ | refine AW_regX (by kernel_rfl) ?_ | refine CallAtG.t (Eq.refl true) ?_ | refine CallAtG.f (Eq.refl false) ?_ | refine CallAt.mk _ (g37 ..) (by first | (intro h; cases h; done) | (intro _; repeat' (first | exact List.forall_mem_nil _ | trivial | refine List.forall_mem_cons.2 ⟨?_, ?_⟩)) | (intro _; simp [RV.flatP, CD.flatP]; done)) ?_ | refine CallAtG.mk _ (fun _ => g37 ..) ?_ | refine CallDS.mk _ (by simp [RV.data]) (fun _ => g37 ..) (by first | (intro h; cases h; done) | (intro _; repeat' (first | exact List.forall_mem_nil _ | trivial | refine List.forall_mem_cons.2 ⟨?_, ?_⟩)) | (intro _; simp [RV.flatP, CD.flatP]; done)) ?_); try simp (disch := omega) only [go_sem, seval, reduceCtorEq, ↓reduceIte, beq_dec, Int.toNat_natCast, IntKind.signed, IntKind.bits]) | refine And.intro (fun hc => (?_ : AW _ _ _ _)) (fun hc => (?_ : AW _ _ _ _)) | simp (disch := omega) only [go_sem, seval, reduceCtorEq, ↓reduceIte, beq_dec, Int.toNat_natCast, IntKind.signed, IntKind.bits] | (refine And.intro ?_ ?_; focus (first | (intros; omega) | (intros; simp_all; done))) | refine And.intro (?_ : CallAt _ _ _ _ _ _ _ _) ?_ | refine And.intro (?_ : CallAt _ _ _ _ _ _ _ _ ∧ _) ?_ | refine And.intro (?_ : AW _ _ _ _) ?_ | fail))
theorem hold26 {Q : Exit → St → Prop} {σ : St} (h : Hold (AW Try.prog c26_8 Q σ)) : AW Try.prog c26_8 Q σ := h.out
set_option maxHeartbeats 4000000 in
theorem n26 (g : Gr) (hv : validG g = true) : FnR Try.prog 26 [g.av] [ORow (bridgesG g), .c (.I 0)] := by
  have g37 := f37 g
  rw [dies_valid hv, errV_valid hv] at g37
  have hsm := valid_small hv
  have g52 := n52g g [] hv
  have g52n := FnR.nil (pre := [.c (DL (diesG g)), .c (LL g.links)]) (post := []) (k := 1) g52
  have g51 := n51g g [] hv
  have ga := fun x => n52g g [x] hv
  have gb := fun x => n51g g [x] hv
  unfold bridgesG
  refine fn_walk code26 (by simp) ?_
  (repeat' (first | (with_reducible refine hold26 ?_; try simp (disch := omega) only [go_sem, seval, reduceCtorEq, ↓reduceIte, beq_dec, Int.toNat_natCast, IntKind.signed, IntKind.bits, List.length_map]) | refine NextAt.mk (fun hc => ?_) (fun pre n v post hc hkey => ?_) | refine Sni.mk (fun hc => ?_) ?_ | refine Both.mk ?_ ?_ | refine AW_seq ?_ | refine AW_block ?_ | ((first | refine AW_reg ?_ | refine AW_cond ?_ | refine AW_skip ?_ | refine AW_exit ?_ | refine AW_ret ?_ | refine AW_regD (by kernel_rfl) ?_ | refine AW_regX (by kernel_rfl) ?_ | refine CallAtG.t (Eq.refl true) ?_ | refine CallAtG.f (Eq.refl false) ?_ | refine CallAt.mk _ (g37 ..) (by first | (intro h; cases h; done) | (intro _; repeat' (first | exact List.forall_mem_nil _ | trivial | refine List.forall_mem_cons.2 ⟨?_, ?_⟩)) | (intro _; simp [RV.flatP, CD.flatP, List.length_map]; done)) ?_ | refine CallAtG.mk _ (fun _ => g37 ..) ?_ | refine CallDS.mk _ (by simp [RV.data]) (fun _ => g37 ..) (by first | (intro h; cases h; done) | (intro _; repeat' (first | exact List.forall_mem_nil _ | trivial | refine List.forall_mem_cons.2 ⟨?_, ?_⟩)) | (intro _; simp [RV.flatP, CD.flatP, List.length_map]; done)) ?_); try simp (disch := omega) only [go_sem, seval, reduceCtorEq, ↓reduceIte, beq_dec, Int.toNat_natCast, IntKind.signed, IntKind.bits, List.length_map]) | refine And.intro (fun hc => (?_ : AW _ _ _ _)) (fun hc => (?_ : AW _ _ _ _)) | simp (disch := omega) only [go_sem, seval, reduceCtorEq, ↓reduceIte, beq_dec, Int.toNat_natCast, IntKind.signed, IntKind.bits, List.length_map] | (refine And.intro ?_ ?_; focus (first | (intros; omega) | (intros; simp_all; done))) | refine And.intro (?_ : CallAt _ _ _ _ _ _ _ _) ?_ | refine And.intro (?_ : CallAt _ _ _ _ _ _ _ _ ∧ _) ?_ | refine And.intro (?_ : AW _ _ _ _) ?_ | fail))
  refine ⟨AW_frz [11] ?_⟩
  (repeat' (first | refine NextAt.mk (fun hc => ?_) (fun pre n v post hc hkey => ?_) | refine Sni.mk (fun hc => ?_) ?_ | refine Both.mk ?_ ?_ | refine AW_seq ?_ | refine AW_block ?_ | ((first | refine AW_reg ?_ | refine AW_cond ?_ | refine AW_skip ?_ | refine AW_exit ?_ | refine AW_ret ?_ | refine AW_regD (by kernel_rfl) ?_ | refine AW_regX (by kernel_rfl) ?_ | refine CallAtG.t (Eq.refl true) ?_ | refine CallAtG.f (Eq.refl false) ?_ | refine CallAt.mk _ (g52n ..) (by first | (intro h; cases h; done) | (intro _; repeat' (first | exact List.forall_mem_nil _ | trivial | refine List.forall_mem_cons.2 ⟨?_, ?_⟩)) | (intro _; simp [RV.flatP, CD.flatP, List.length_map]; done)) ?_ | refine CallAtG.mk _ (fun _ => g52n ..) ?_ | refine CallDS.mk _ (by simp [RV.data]) (fun _ => g52n ..) (by first | (intro h; cases h; done) | (intro _; repeat' (first | exact List.forall_mem_nil _ | trivial | refine List.forall_mem_cons.2 ⟨?_, ?_⟩)) | (intro _; simp [RV.flatP, CD.flatP, List.length_map]; done)) ?_ | refine CallAt.mk _ (g51 ..) (by first | (intro h; cases h; done) | (intro _; repeat' (first | exact List.forall_mem_nil _ | trivial | refine List.forall_mem_cons.2 ⟨?_, ?_⟩)) | (intro _; simp [RV.flatP, CD.flatP, List.length_map]; done)) ?_ | refine CallAtG.mk _ (fun _ => g51 ..) ?_ | refine CallDS.mk _ (by simp [RV.data]) (fun _ => g51 ..) (by first | (intro h; cases h; done) | (intro _; repeat' (first | exact List.forall_mem_nil _ | trivial | refine List.forall_mem_cons.2 ⟨?_, ?_⟩)) | (intro _; simp [RV.flatP, CD.flatP, List.length_map]; done)) ?_); try simp (disch := omega) only [go_sem, seval, reduceCtorEq, ↓reduceIte, beq_dec, Int.toNat_natCast, IntKind.signed, IntKind.bits, List.length_map]) | refine And.intro (fun hc => (?_ : AW _ _ _ _)) (fun hc => (?_ : AW _ _ _ _)) | simp (disch := omega) only [go_sem, seval, reduceCtorEq, ↓reduceIte, beq_dec, Int.toNat_natCast, IntKind.signed, IntKind.bits, List.length_map] | (refine And.intro ?_ ?_; focus (first | (intros; omega) | (intros; simp_all; done))) | refine And.intro (?_ : CallAt _ _ _ _ _ _ _ _) ?_ | refine And.intro (?_ : CallAt _ _ _ _ _ _ _ _ ∧ _) ?_ | refine And.intro (?_ : AW _ _ _ _) ?_ | fail))
  refine AW_nil 7 900 3 1 (by rfl) ?_
  refine AW_loopK [1, 4, 6] [7, 8, 22, 23, 24, 25, 26, 27, 28, 29, 30, 31, 32, 33, 34, 35, 36, 37, 38, 39, 40, 41, 42, 43, 44, 45, 46, 47, 48, 49, 50, 51] (fun i : Nat => i ≤ g.links.length) (fun i => [(8, .I i), (7, .own 900)]) (fun i => [(900, .arr 3 1 (iRow (brI (esG g) (nG g) (idsG g) i)))]) (fun i => g.links.length - i) 0 (by omega) ?_ ?_
  · simp (disch := omega) only [go_sem, seval, reduceCtorEq, ↓reduceIte, beq_dec, Int.toNat_natCast, IntKind.signed, IntKind.bits, Int.natCast_zero, brI, List.range_zero, List.filter_nil, List.map_nil]
  · intro i hi
    have hbl := brI_len (esG g) (nG g) (idsG g) i
    rcases Nat.lt_or_ge i g.links.length with hil | hil
    · have hsuc := brI_succ (esG g) (nG g) (idsG g) i
      rw [brB_cc hv hil, ids_nth hil] at hsuc
      generalize brI (esG g) (nG g) (idsG g) i = z at *
      (repeat' (first | refine NextAt.mk (fun hc => ?_) (fun pre n v post hc hkey => ?_) | refine Sni.mk (fun hc => ?_) ?_ | refine Both.mk ?_ ?_ | refine AW_seq ?_ | refine AW_block ?_ | ((first | refine AW_reg ?_ | refine AW_cond ?_ | refine AW_skip ?_ | refine AW_exit ?_ | refine AW_ret ?_ | refine AW_regD (by kernel_rfl) ?_ | refine AW_regX (by kernel_rfl) ?_ | refine CallAtG.t (Eq.refl true) ?_ | refine CallAtG.f (Eq.refl false) ?_ | refine CallAt.mk _ (g37 ..) (by first | (intro h; cases h; done) | (intro _; repeat' (first | exact List.forall_mem_nil _ | trivial | refine List.forall_mem_cons.2 ⟨?_, ?_⟩)) | (intro _; simp [RV.flatP, CD.flatP, List.length_map, getD_map Lk.cd, Lk.cd, maxLen]; done)) ?_ | refine CallAtG.mk _ (fun _ => g37 ..) ?_ | refine CallDS.mk _ (by simp [RV.data]) (fun _ => g37 ..) (by first | (intro h; cases h; done) | (intro _; repeat' (first | exact List.forall_mem_nil _ | trivial | refine List.forall_mem_cons.2 ⟨?_, ?_⟩)) | (intro _; simp [RV.flatP, CD.flatP, List.length_map, getD_map Lk.cd, Lk.cd, maxLen]; done)) ?_ | refine CallAt.mk _ (ga ..) (by first | (intro h; cases h; done) | (intro _; repeat' (first | exact List.forall_mem_nil _ | trivial | refine List.forall_mem_cons.2 ⟨?_, ?_⟩)) | (intro _; simp [RV.flatP, CD.flatP, List.length_map, getD_map Lk.cd, Lk.cd, maxLen]; done)) ?_ | refine CallAtG.mk _ (fun _ => ga ..) ?_ | refine CallDS.mk _ (by simp [RV.data]) (fun _ => ga ..) (by first | (intro h; cases h; done) | (intro _; repeat' (first | exact List.forall_mem_nil _ | trivial | refine List.forall_mem_cons.2 ⟨?_, ?_⟩)) | (intro _; simp [RV.flatP, CD.flatP, List.length_map, getD_map Lk.cd, Lk.cd, maxLen]; done)) ?_ | refine CallAt.mk _ (gb ..) (by first | (intro h; cases h; done) | (intro _; repeat' (first | exact List.forall_mem_nil _ | trivial | refine List.forall_mem_cons.2 ⟨?_, ?_⟩)) | (intro _; simp [RV.flatP, CD.flatP, List.length_map, getD_map Lk.cd, Lk.cd, maxLen]; done)) ?_ | refine CallAtG.mk _ (fun _ => gb ..) ?_ | refine CallDS.mk _ (by simp [RV.data]) (fun _ => gb ..) (by first | (intro h; cases h; done) | (intro _; repeat' (first | exact List.forall_mem_nil _ | trivial | refine List.forall_mem_cons.2 ⟨?_, ?_⟩)) | (intro _; simp [RV.flatP, CD.flatP, List.length_map, getD_map Lk.cd, Lk.cd, maxLen]; done)) ?_); try simp (disch := omega) only [go_sem, seval, reduceCtorEq, ↓reduceIte, beq_dec, Int.toNat_natCast, IntKind.signed, IntKind.bits, List.length_map, getD_map Lk.cd, Lk.cd, maxLen]) | refine And.intro (fun hc => (?_ : AW _ _ _ _)) (fun hc => (?_ : AW _ _ _ _)) | simp (disch := omega) only [go_sem, seval, reduceCtorEq, ↓reduceIte, beq_dec, Int.toNat_natCast, IntKind.signed, IntKind.bits, List.length_map, getD_map Lk.cd, Lk.cd, maxLen] | (refine And.intro ?_ ?_; focus (first | (intros; omega) | (intros; simp_all; done))) | refine And.intro (?_ : CallAt _ _ _ _ _ _ _ _) ?_ | refine And.intro (?_ : CallAt _ _ _ _ _ _ _ _ ∧ _) ?_ | refine And.intro (?_ : AW _ _ _ _) ?_ | fail))
      all_goals first
        | (exfalso; omega)
        | (refine .mk (i + 1) (by omega) (by omega) ?_
           rw [hsuc, if_pos (decide_eq_true (by omega)), iRow_app']
           simp (disch := omega) only [go_sem, seval, reduceCtorEq, ↓reduceIte, beq_dec, Int.toNat_natCast, IntKind.signed, IntKind.bits, Int.natCast_add, Int.natCast_one]
           done)
        | (refine .mk (i + 1) (by omega) (by omega) ?_
           rw [hsuc, if_neg (by simp; omega), List.append_nil]
           simp (disch := omega) only [go_sem, seval, reduceCtorEq, ↓reduceIte, beq_dec, Int.toNat_natCast, IntKind.signed, IntKind.bits, Int.natCast_add, Int.natCast_one]
           done)
        | trace_state
    · obtain rfl : i = g.links.length := by omega
      (repeat' (first | refine NextAt.mk (fun hc => ?_) (fun pre n v post hc hkey => ?_) | refine Sni.mk (fun hc => ?_) ?_ | refine Both.mk ?_ ?_ | refine AW_seq ?_ | refine AW_block ?_ | ((first | refine AW_reg ?_ | refine AW_cond ?_ | refine AW_skip ?_ | refine AW_exit ?_ | refine AW_ret ?_ | refine AW_regD (by kernel_rfl) ?_ | refine AW_regX (by kernel_rfl) ?_ | refine CallAtG.t (Eq.refl true) ?_ | refine CallAtG.f (Eq.refl false) ?_); try simp (disch := omega) only [go_sem, seval, reduceCtorEq, ↓reduceIte, beq_dec, Int.toNat_natCast, IntKind.signed, IntKind.bits, List.length_map]) | refine And.intro (fun hc => (?_ : AW _ _ _ _)) (fun hc => (?_ : AW _ _ _ _)) | simp (disch := omega) only [go_sem, seval, reduceCtorEq, ↓reduceIte, beq_dec, Int.toNat_natCast, IntKind.signed, IntKind.bits, List.length_map] | (refine And.intro ?_ ?_; focus (first | (intros; omega) | (intros; simp_all; done))) | refine And.intro (?_ : CallAt _ _ _ _ _ _ _ _) ?_ | refine And.intro (?_ : CallAt _ _ _ _ _ _ _ _ ∧ _) ?_ | refine And.intro (?_ : AW _ _ _ _) ?_ | fail))
      all_goals (exfalso; omega)
end Go.Proofs.Ytgldpbghbkoolaa

