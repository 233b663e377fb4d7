/-
  Lemmas for the proof: no statement of its own.
-/
import Derived.Test.YtddhinbiahcjlaaWalkF
set_option linter.unusedVariables false
set_option linter.unusedSimpArgs false
-- P p_27s.txt
open Go Go.AL Go.RowKit
namespace Go.Proofs.Ytddhinbiahcjlaa
set_option maxRecDepth 20000
def rowV (l : List Int) : CD := if l = [] then .nil else Row l
theorem rowV_ne {l : List Int} (h : l ≠ []) : rowV l = Row l := if_neg h
theorem insA_ne (l : List Int) (x : Int) : insA l x ≠ [] := fun h => by
  have : x ∈ insA l x := insA_mem.2 (.inr rfl)
  rw [h] at this; cases this
theorem r20V (l : List Int) (x : Int) (hl : l.length ≤ 1000) : FnR Try.prog 20 [.c (rowV l), .I x] [.c (rowV (insA l x))] := by
  rw [rowV_ne (insA_ne l x)]
  have h := r20 l x hl
  by_cases e : l = []
  · subst e
    exact FnR.nil (pre := []) (post := [.I x]) (k := 1) h
  · rw [rowV_ne e]; exact h
theorem rowT_ne (sd : Int) (l : List Cn) (h : Nat) (hh : h < (rowsN sd l).length) : rowT sd l h ≠ [] := fun e => by
  have hm : nth (rowsN sd l) h ∈ rowsN sd l := nth_mem _ h hh
  have hm2 := cs_mem.1 hm
  obtain ⟨j, hj, ej⟩ := mem_nth.1 hm2
  rw [List.length_map] at hj
  rw [nth_mapC _ _ _ hj] at ej
  obtain ⟨d1, d2⟩ := plc_lt (col_in sd l hj)
  have : ((plc (colsN sd l) (colC sd (nth l j)) : Nat) : Int) ∈ rowT sd l h := by
    unfold rowT
    rw [rowK_mem]
    refine ⟨_, d1, rfl, j, hj, ?_⟩
    unfold hitC
    rw [ej, d2]
    simp
  rw [e] at this; cases this
def refT (sd : Int) (l : List Cn) : CD := if ofE sd l = 0 then (if l = [] then .nil else Tab (tabT sd l)) else .nil
theorem hold47k {Q : Exit → St → Prop} {σ : St} (h : Hold (AW Try.prog c6_47 Q σ)) : AW Try.prog c6_47 Q σ := h.out
theorem hold43k {Q : Exit → St → Prop} {σ : St} (h : Hold (AW Try.prog c6_43 Q σ)) : AW Try.prog c6_43 Q σ := h.out
theorem hold55k {Q : Exit → St → Prop} {σ : St} (h : Hold (AW Try.prog c6_55 Q σ)) : AW Try.prog c6_55 Q σ := h.out
theorem hold20k {Q : Exit → St → Prop} {σ : St} (h : Hold (AW Try.prog c6_20 Q σ)) : AW Try.prog c6_20 Q σ := h.out
theorem hold103k {Q : Exit → St → Prop} {σ : St} (h : Hold (AW Try.prog c6_103 Q σ)) : AW Try.prog c6_103 Q σ := h.out
abbrev lnkC (l : List Cn) : List (List CD) := l.map lkC
theorem lnk_snoc (l : List Cn) (i : Nat) (h : i < l.length) : lnkC (l.take (i + 1)) = lnkC (l.take i) ++ [[.I (nth l i).id, .I (nth l i).obv, .I (nth l i).rev]] := by
  rw [List.take_succ_eq_append_getElem h, nth_eq l i h]
  unfold lnkC
  rw [List.map_append]; rfl
set_option maxHeartbeats 8000000 in
theorem r6e (l : List Cn) (sd : Int) (h0 : ofE sd l ≠ 0 ∨ l = []) : FnR Try.prog 6 [.c (Cns l), .I sd] [.c (.I (ofN sd l)), .c (refT sd l), .c (.I (ofE sd l))] := by
  have g19 := r19 l
  by_cases h1 : chkC l = 0
  case neg =>
    have e1 : ofE sd l = chkC l := by unfold ofE; rw [if_pos h1]
    have e2 : ofN sd l = 0 := by unfold ofN; rw [e1, if_neg h1]
    have e3 : refT sd l = .nil := by unfold refT; rw [e1, if_neg h1]
    rw [e1, e2, e3]
    generalize chkC l = z at *
    have hz : (z = 0) = False := eq_false h1
    refine fn_walk code6 (by simp) ?_
    (repeat' (first | refine NextAt.mk (fun hc => ?_) (fun pre n v post hc hkey => ?_) | refine Sni.mk (fun hc => ?_) ?_ | refine Both.mk ?_ ?_ | refine AW_seq ?_ | refine AW_block ?_ | ((first | refine AW_reg ?_ | refine AW_cond ?_ | refine AW_skip ?_ | refine AW_exit ?_ | refine AW_ret ?_ | refine AW_regD (by kernel_rfl) ?_ | refine AW_regX (by kernel_rfl) ?_ | refine CallAtG.t (Eq.refl true) ?_ | refine CallAtG.f (Eq.refl false) ?_ | refine CallAt.mk _ (g19 ..) (by first | (intro h; cases h; done) | (intro _; repeat' (first | exact List.forall_mem_nil _ | trivial | refine List.forall_mem_cons.2 ⟨?_, ?_⟩)) | (intro _; simp [RV.flatP, CD.flatP, hz]; done)) ?_ | refine CallAtG.mk _ (fun _ => g19 ..) ?_ | refine CallDS.mk _ (by simp [RV.data]) (fun _ => g19 ..) (by first | (intro h; cases h; done) | (intro _; repeat' (first | exact List.forall_mem_nil _ | trivial | refine List.forall_mem_cons.2 ⟨?_, ?_⟩)) | (intro _; simp [RV.flatP, CD.flatP, hz]; done)) ?_); try simp (disch := omega) only [go_sem, seval, reduceCtorEq, ↓reduceIte, beq_dec, Int.toNat_natCast, IntKind.signed, IntKind.bits, hz]) | refine And.intro (fun hc => (?_ : AW _ _ _ _)) (fun hc => (?_ : AW _ _ _ _)) | simp (disch := omega) only [go_sem, seval, reduceCtorEq, ↓reduceIte, beq_dec, Int.toNat_natCast, IntKind.signed, IntKind.bits, hz] | (refine And.intro ?_ ?_; focus (first | (intros; omega) | (intros; simp_all; done))) | refine And.intro (?_ : CallAt _ _ _ _ _ _ _ _) ?_ | refine And.intro (?_ : CallAt _ _ _ _ _ _ _ _ ∧ _) ?_ | refine And.intro (?_ : AW _ _ _ _) ?_ | fail))
  case pos =>
    have hl := chk_len h1
    rw [h1] at g19
    by_cases h2 : sd ≠ 0 ∧ sd ≠ 1
    · have e1 : ofE sd l = 2 := by unfold ofE; rw [if_neg (by omega), if_pos h2]
      have e2 : ofN sd l = 0 := by unfold ofN; rw [e1]; rfl
      have e3 : refT sd l = .nil := by unfold refT; rw [e1]; rfl
      rw [e1, e2, e3]
      have hz : (sd = 0) = False := eq_false h2.1
      have hz' : (sd = 1) = False := eq_false h2.2
      refine fn_walk code6 (by simp) ?_
      (repeat' (first | refine NextAt.mk (fun hc => ?_) (fun pre n v post hc hkey => ?_) | refine Sni.mk (fun hc => ?_) ?_ | refine Both.mk ?_ ?_ | refine AW_seq ?_ | refine AW_block ?_ | ((first | refine AW_reg ?_ | refine AW_cond ?_ | refine AW_skip ?_ | refine AW_exit ?_ | refine AW_ret ?_ | refine AW_regD (by kernel_rfl) ?_ | refine AW_regX (by kernel_rfl) ?_ | refine CallAtG.t (Eq.refl true) ?_ | refine CallAtG.f (Eq.refl false) ?_ | refine CallAt.mk _ (g19 ..) (by first | (intro h; cases h; done) | (intro _; repeat' (first | exact List.forall_mem_nil _ | trivial | refine List.forall_mem_cons.2 ⟨?_, ?_⟩)) | (intro _; simp [RV.flatP, CD.flatP, hz, hz']; done)) ?_ | refine CallAtG.mk _ (fun _ => g19 ..) ?_ | refine CallDS.mk _ (by simp [RV.data]) (fun _ => g19 ..) (by first | (intro h; cases h; done) | (intro _; repeat' (first | exact List.forall_mem_nil _ | trivial | refine List.forall_mem_cons.2 ⟨?_, ?_⟩)) | (intro _; simp [RV.flatP, CD.flatP, hz, hz']; done)) ?_); try simp (disch := omega) only [go_sem, seval, reduceCtorEq, ↓reduceIte, beq_dec, Int.toNat_natCast, IntKind.signed, IntKind.bits, hz, hz']) | refine And.intro (fun hc => (?_ : AW _ _ _ _)) (fun hc => (?_ : AW _ _ _ _)) | simp (disch := omega) only [go_sem, seval, reduceCtorEq, ↓reduceIte, beq_dec, Int.toNat_natCast, IntKind.signed, IntKind.bits, hz, hz'] | (refine And.intro ?_ ?_; focus (first | (intros; omega) | (intros; simp_all; done))) | refine And.intro (?_ : CallAt _ _ _ _ _ _ _ _) ?_ | refine And.intro (?_ : CallAt _ _ _ _ _ _ _ _ ∧ _) ?_ | refine And.intro (?_ : AW _ _ _ _) ?_ | fail))
    · have hsd : (!decide (sd = 0) && !decide (sd = 1)) = false := by
        by_cases h0 : sd = 0
        · simp [h0]
        · by_cases h3 : sd = 1
          · simp [h3]
          · omega
      have hR : inss (fun i => rowC sd (nth l i)) l.length = rowsN sd l := inss_cs (rowC sd) l
      have hC : inss (fun i => colC sd (nth l i)) l.length = colsN sd l := inss_cs (colC sd) l
      by_cases hne : l = []
      · subst hne
        have e1 : ofE sd [] = 0 := by
          unfold ofE; rw [if_neg (by omega), if_neg h2, if_neg]
          rw [← hR, ← hC]; simp [inss]
        have e2 : ofN sd [] = 0 := by unfold ofN; rw [if_pos e1, ← hC]; rfl
        have e3 : refT sd [] = .nil := by unfold refT; rw [if_pos e1, if_pos rfl]
        rw [e1, e2, e3]
        refine fn_walk code6 (by simp) ?_
        (repeat' (first | refine NextAt.mk (fun hc => ?_) (fun pre n v post hc hkey => ?_) | refine Sni.mk (fun hc => ?_) ?_ | refine Both.mk ?_ ?_ | refine AW_seq ?_ | refine AW_block ?_ | ((first | refine AW_reg ?_ | refine AW_cond ?_ | refine AW_skip ?_ | refine AW_exit ?_ | refine AW_ret ?_ | refine AW_regD (by kernel_rfl) ?_ | refine AW_regX (by kernel_rfl) ?_ | refine CallAtG.t (Eq.refl true) ?_ | refine CallAtG.f (Eq.refl false) ?_ | refine CallAt.mk _ (g19 ..) (by first | (intro h; cases h; done) | (intro _; repeat' (first | exact List.forall_mem_nil _ | trivial | refine List.forall_mem_cons.2 ⟨?_, ?_⟩)) | (intro _; simp [RV.flatP, CD.flatP, hsd, List.map_nil]; done)) ?_ | refine CallAtG.mk _ (fun _ => g19 ..) ?_ | refine CallDS.mk _ (by simp [RV.data]) (fun _ => g19 ..) (by first | (intro h; cases h; done) | (intro _; repeat' (first | exact List.forall_mem_nil _ | trivial | refine List.forall_mem_cons.2 ⟨?_, ?_⟩)) | (intro _; simp [RV.flatP, CD.flatP, hsd, List.map_nil]; done)) ?_); try simp (disch := omega) only [go_sem, seval, reduceCtorEq, ↓reduceIte, beq_dec, Int.toNat_natCast, IntKind.signed, IntKind.bits, hsd, List.map_nil]) | refine And.intro (fun hc => (?_ : AW _ _ _ _)) (fun hc => (?_ : AW _ _ _ _)) | simp (disch := omega) only [go_sem, seval, reduceCtorEq, ↓reduceIte, beq_dec, Int.toNat_natCast, IntKind.signed, IntKind.bits, hsd, List.map_nil] | (refine And.intro ?_ ?_; focus (first | (intros; omega) | (intros; simp_all; done))) | refine And.intro (?_ : CallAt _ _ _ _ _ _ _ _) ?_ | refine And.intro (?_ : CallAt _ _ _ _ _ _ _ _ ∧ _) ?_ | refine And.intro (?_ : AW _ _ _ _) ?_ | fail))
        refine AW_loopK [0, 1] [8, 9, 10, 11, 12, 33, 34, 35, 36, 37, 38, 39, 40, 41, 42, 43, 44, 45, 46, 47, 48, 49, 50, 51, 52, 53, 54, 55, 56, 57, 58] (fun i : Nat => i = 0) (fun i => [(8, .c .nil), (9, .c .nil), (10, .I i)]) (fun _ => []) (fun i => 0) 0 rfl ?_ ?_
        · simp (disch := omega) only [go_sem, seval, reduceCtorEq, ↓reduceIte, beq_dec, Int.toNat_natCast, IntKind.signed, IntKind.bits, Int.natCast_zero]
        · rintro i rfl
          (repeat' (first | refine NextAt.mk (fun hc => ?_) (fun pre n v post hc hkey => ?_) | refine Sni.mk (fun hc => ?_) ?_ | refine Both.mk ?_ ?_ | refine AW_seq ?_ | refine AW_block ?_ | ((first | refine AW_reg ?_ | refine AW_cond ?_ | refine AW_skip ?_ | refine AW_exit ?_ | refine AW_ret ?_ | refine AW_regD (by kernel_rfl) ?_ | refine AW_regX (by kernel_rfl) ?_ | refine CallAtG.t (Eq.refl true) ?_ | refine CallAtG.f (Eq.refl false) ?_ | refine CallAt.mk _ (r21 ..) (by first | (intro h; cases h; done) | (intro _; repeat' (first | exact List.forall_mem_nil _ | trivial | refine List.forall_mem_cons.2 ⟨?_, ?_⟩)) | (intro _; simp [RV.flatP, CD.flatP, List.map_nil]; done)) ?_ | refine CallAtG.mk _ (fun _ => r21 ..) ?_ | refine CallDS.mk _ (by simp [RV.data]) (fun _ => r21 ..) (by first | (intro h; cases h; done) | (intro _; repeat' (first | exact List.forall_mem_nil _ | trivial | refine List.forall_mem_cons.2 ⟨?_, ?_⟩)) | (intro _; simp [RV.flatP, CD.flatP, List.map_nil]; done)) ?_); try simp (disch := omega) only [go_sem, seval, reduceCtorEq, ↓reduceIte, beq_dec, Int.toNat_natCast, IntKind.signed, IntKind.bits, List.map_nil]) | refine And.intro (fun hc => (?_ : AW _ _ _ _)) (fun hc => (?_ : AW _ _ _ _)) | simp (disch := omega) only [go_sem, seval, reduceCtorEq, ↓reduceIte, beq_dec, Int.toNat_natCast, IntKind.signed, IntKind.bits, List.map_nil] | (refine And.intro ?_ ?_; focus (first | (intros; omega) | (intros; simp_all; done))) | refine And.intro (?_ : CallAt _ _ _ _ _ _ _ _) ?_ | refine And.intro (?_ : CallAt _ _ _ _ _ _ _ _ ∧ _) ?_ | refine And.intro (?_ : AW _ _ _ _) ?_ | fail))
          refine AW_loopK [0, 1, 8, 9, 13, 14] [15, 68, 69, 70, 71, 72, 73, 74, 75, 76, 77, 78, 79, 80, 81, 82, 83, 84, 85, 86, 87, 88, 89, 90, 91, 92, 93, 94] (fun i : Nat => i = 0) (fun i => [(15, .I i)]) (fun _ => [(14, .box 51 [.c .nil, .c .nil, .c .nil])]) (fun i => 0) 0 rfl ?_ ?_
          · simp (disch := omega) only [go_sem, seval, reduceCtorEq, ↓reduceIte, beq_dec, Int.toNat_natCast, IntKind.signed, IntKind.bits, Int.natCast_zero]
          · rintro i rfl
            (repeat' (first | refine NextAt.mk (fun hc => ?_) (fun pre n v post hc hkey => ?_) | refine Sni.mk (fun hc => ?_) ?_ | refine Both.mk ?_ ?_ | refine AW_seq ?_ | refine AW_block ?_ | ((first | refine AW_reg ?_ | refine AW_cond ?_ | refine AW_skip ?_ | refine AW_exit ?_ | refine AW_ret ?_ | refine AW_regD (by kernel_rfl) ?_ | refine AW_regX (by kernel_rfl) ?_ | refine CallAtG.t (Eq.refl true) ?_ | refine CallAtG.f (Eq.refl false) ?_); try simp (disch := omega) only [go_sem, seval, reduceCtorEq, ↓reduceIte, beq_dec, Int.toNat_natCast, IntKind.signed, IntKind.bits, List.map_nil]) | refine And.intro (fun hc => (?_ : AW _ _ _ _)) (fun hc => (?_ : AW _ _ _ _)) | simp (disch := omega) only [go_sem, seval, reduceCtorEq, ↓reduceIte, beq_dec, Int.toNat_natCast, IntKind.signed, IntKind.bits, List.map_nil] | (refine And.intro ?_ ?_; focus (first | (intros; omega) | (intros; simp_all; done))) | refine And.intro (?_ : CallAt _ _ _ _ _ _ _ _) ?_ | refine And.intro (?_ : CallAt _ _ _ _ _ _ _ _ ∧ _) ?_ | refine And.intro (?_ : AW _ _ _ _) ?_ | fail))
            refine AW_loopK [1, 8, 9, 14] [13, 16, 17, 18, 19, 20, 21, 95, 96, 97, 98, 99, 100, 101, 102, 103, 104, 105, 106, 107, 108, 109, 110, 111, 112, 113, 114, 115, 116, 117, 118, 119, 120, 121, 122, 123, 124, 125, 126, 127, 128, 129, 130, 131, 132, 133, 134, 135, 136, 137, 138, 139, 140, 141, 142, 143, 144, 145, 146, 147, 148, 149, 150] (fun i : Nat => i = 0) (fun i => [(13, .c .nil), (16, .I i)]) (fun _ => []) (fun i => 0) 0 rfl ?_ ?_
            · simp (disch := omega) only [go_sem, seval, reduceCtorEq, ↓reduceIte, beq_dec, Int.toNat_natCast, IntKind.signed, IntKind.bits, Int.natCast_zero]
            · rintro i rfl
              (repeat' (first | refine NextAt.mk (fun hc => ?_) (fun pre n v post hc hkey => ?_) | refine Sni.mk (fun hc => ?_) ?_ | refine Both.mk ?_ ?_ | refine AW_seq ?_ | refine AW_block ?_ | ((first | refine AW_reg ?_ | refine AW_cond ?_ | refine AW_skip ?_ | refine AW_exit ?_ | refine AW_ret ?_ | refine AW_regD (by kernel_rfl) ?_ | refine AW_regX (by kernel_rfl) ?_ | refine CallAtG.t (Eq.refl true) ?_ | refine CallAtG.f (Eq.refl false) ?_); try simp (disch := omega) only [go_sem, seval, reduceCtorEq, ↓reduceIte, beq_dec, Int.toNat_natCast, IntKind.signed, IntKind.bits, List.map_nil]) | refine And.intro (fun hc => (?_ : AW _ _ _ _)) (fun hc => (?_ : AW _ _ _ _)) | simp (disch := omega) only [go_sem, seval, reduceCtorEq, ↓reduceIte, beq_dec, Int.toNat_natCast, IntKind.signed, IntKind.bits, List.map_nil] | (refine And.intro ?_ ?_; focus (first | (intros; omega) | (intros; simp_all; done))) | refine And.intro (?_ : CallAt _ _ _ _ _ _ _ _) ?_ | refine And.intro (?_ : CallAt _ _ _ _ _ _ _ _ ∧ _) ?_ | refine And.intro (?_ : AW _ _ _ _) ?_ | fail))
      · have h3 : 7 < (colsN sd l).length ∨ 16 < (rowsN sd l).length := by
          rcases h0 with h0 | h0
          · refine Classical.byContradiction fun h => h0 ?_
            unfold ofE; rw [if_neg (by omega), if_neg h2, if_neg h]
          · exact absurd h0 hne
        have e1 : ofE sd l = 6 := by unfold ofE; rw [if_neg (by omega), if_neg h2, if_pos h3]
        have e2 : ofN sd l = 0 := by unfold ofN; rw [e1]; rfl
        have e3 : refT sd l = .nil := by unfold refT; rw [e1]; rfl
        rw [e1, e2, e3]
        have hn0 : 0 < l.length := List.length_pos_iff.2 hne
        have hRn : rowsN sd l ≠ [] := fun e => by have := row_in sd l hn0; rw [e] at this; cases this
        have hCn : colsN sd l ≠ [] := fun e => by have := col_in sd l hn0; rw [e] at this; cases this
        refine fn_walk code6 (by simp) ?_
        (repeat' (first | refine NextAt.mk (fun hc => ?_) (fun pre n v post hc hkey => ?_) | refine Sni.mk (fun hc => ?_) ?_ | refine Both.mk ?_ ?_ | refine AW_seq ?_ | refine AW_block ?_ | ((first | refine AW_reg ?_ | refine AW_cond ?_ | refine AW_skip ?_ | refine AW_exit ?_ | refine AW_ret ?_ | refine AW_regD (by kernel_rfl) ?_ | refine AW_regX (by kernel_rfl) ?_ | refine CallAtG.t (Eq.refl true) ?_ | refine CallAtG.f (Eq.refl false) ?_ | refine CallAt.mk _ (g19 ..) (by first | (intro h; cases h; done) | (intro _; repeat' (first | exact List.forall_mem_nil _ | trivial | refine List.forall_mem_cons.2 ⟨?_, ?_⟩)) | (intro _; simp [RV.flatP, CD.flatP, hsd]; done)) ?_ | refine CallAtG.mk _ (fun _ => g19 ..) ?_ | refine CallDS.mk _ (by simp [RV.data]) (fun _ => g19 ..) (by first | (intro h; cases h; done) | (intro _; repeat' (first | exact List.forall_mem_nil _ | trivial | refine List.forall_mem_cons.2 ⟨?_, ?_⟩)) | (intro _; simp [RV.flatP, CD.flatP, hsd]; done)) ?_); try simp (disch := omega) only [go_sem, seval, reduceCtorEq, ↓reduceIte, beq_dec, Int.toNat_natCast, IntKind.signed, IntKind.bits, hsd]) | refine And.intro (fun hc => (?_ : AW _ _ _ _)) (fun hc => (?_ : AW _ _ _ _)) | simp (disch := omega) only [go_sem, seval, reduceCtorEq, ↓reduceIte, beq_dec, Int.toNat_natCast, IntKind.signed, IntKind.bits, hsd] | (refine And.intro ?_ ?_; focus (first | (intros; omega) | (intros; simp_all; done))) | refine And.intro (?_ : CallAt _ _ _ _ _ _ _ _) ?_ | refine And.intro (?_ : CallAt _ _ _ _ _ _ _ _ ∧ _) ?_ | refine And.intro (?_ : AW _ _ _ _) ?_ | fail))
        refine AW_loopK [0, 1] [8, 9, 10, 11, 12, 33, 34, 35, 36, 37, 38, 39, 40, 41, 42, 43, 44, 45, 46, 47, 48, 49, 50, 51, 52, 53, 54, 55, 56, 57, 58] (fun i : Nat => i ≤ l.length) (fun i => [(8, .c (rowV (inss (fun i => rowC sd (nth l i)) i))), (9, .c (rowV (inss (fun i => colC sd (nth l i)) i))), (10, .I i)]) (fun _ => []) (fun i => l.length - i) 0 (by omega) ?_ ?_
        · simp (disch := omega) only [go_sem, seval, reduceCtorEq, ↓reduceIte, beq_dec, Int.toNat_natCast, IntKind.signed, IntKind.bits, Int.natCast_zero, inss, rowV]
        · intro i hi
          rcases Nat.lt_or_ge i l.length with hil | hil
          · have ga := r20V (inss (fun i => rowC sd (nth l i)) i) (rowC sd (nth l i)) (by have := inss_len (fun i => rowC sd (nth l i)) i; omega)
            have gb := r20V (inss (fun i => colC sd (nth l i)) i) (colC sd (nth l i)) (by have := inss_len (fun i => colC sd (nth l i)) i; omega)
            have ra : inss (fun i => rowC sd (nth l i)) (i + 1) = insA (inss (fun i => rowC sd (nth l i)) i) (rowC sd (nth l i)) := rfl
            have rb : inss (fun i => colC sd (nth l i)) (i + 1) = insA (inss (fun i => colC sd (nth l i)) i) (colC sd (nth l i)) := rfl
            rw [← ra] at ga
            rw [← rb] at gb
            have hkk : ((i : Int) < (l.length : Int)) = True := eq_true (by omega)
            have hge : (l.map Cn.cd).getD i [] = [.I (nth l i).id, .I (nth l i).obv, .I (nth l i).rev, .I (nth l i).ost, .I (nth l i).rst, .I (nth l i).ax, .I (nth l i).wt] := getD_map Cn.cd l i [] hil
            generalize hA : inss (fun i => rowC sd (nth l i)) (i + 1) = A' at *
            generalize hB : inss (fun i => colC sd (nth l i)) (i + 1) = B' at *
            (repeat' (first | (with_reducible refine hold20k ?_; try simp (disch := omega) only [go_sem, seval, reduceCtorEq, ↓reduceIte, beq_dec, Int.toNat_natCast, IntKind.signed, IntKind.bits, hge, Int.toNat_natCast, List.length_map, hkk]) | refine NextAt.mk (fun hc => ?_) (fun pre n v post hc hkey => ?_) | refine Sni.mk (fun hc => ?_) ?_ | refine Both.mk ?_ ?_ | refine AW_seq ?_ | refine AW_block ?_ | ((first | refine AW_reg ?_ | refine AW_cond ?_ | refine AW_skip ?_ | refine AW_exit ?_ | refine AW_ret ?_ | refine AW_regD (by kernel_rfl) ?_ | refine AW_regX (by kernel_rfl) ?_ | refine CallAtG.t (Eq.refl true) ?_ | refine CallAtG.f (Eq.refl false) ?_); try simp (disch := omega) only [go_sem, seval, reduceCtorEq, ↓reduceIte, beq_dec, Int.toNat_natCast, IntKind.signed, IntKind.bits, hge, Int.toNat_natCast, List.length_map, hkk]) | refine And.intro (fun hc => (?_ : AW _ _ _ _)) (fun hc => (?_ : AW _ _ _ _)) | simp (disch := omega) only [go_sem, seval, reduceCtorEq, ↓reduceIte, beq_dec, Int.toNat_natCast, IntKind.signed, IntKind.bits, hge, Int.toNat_natCast, List.length_map, hkk] | (refine And.intro ?_ ?_; focus (first | (intros; omega) | (intros; simp_all; done))) | refine And.intro (?_ : CallAt _ _ _ _ _ _ _ _) ?_ | refine And.intro (?_ : CallAt _ _ _ _ _ _ _ _ ∧ _) ?_ | refine And.intro (?_ : AW _ _ _ _) ?_ | fail))
            constructor
            by_cases hs : sd = 1
            · have er : rowC sd (nth l i) = (nth l i).rev := by subst hs; rfl
              have ec : colC sd (nth l i) = (nth l i).obv := by subst hs; rfl
              rw [er] at ga
              rw [ec] at gb
              have hs1 : (sd = 1) = True := eq_true hs
              (repeat' (first | refine NextAt.mk (fun hc => ?_) (fun pre n v post hc hkey => ?_) | refine Sni.mk (fun hc => ?_) ?_ | refine Both.mk ?_ ?_ | refine AW_seq ?_ | refine AW_block ?_ | ((first | refine AW_reg ?_ | refine AW_cond ?_ | refine AW_skip ?_ | refine AW_exit ?_ | refine AW_ret ?_ | refine AW_regD (by kernel_rfl) ?_ | refine AW_regX (by kernel_rfl) ?_ | refine CallAtG.t (Eq.refl true) ?_ | refine CallAtG.f (Eq.refl false) ?_ | refine CallAt.mk _ (ga ..) (by first | (intro h; cases h; done) | (intro _; repeat' (first | exact List.forall_mem_nil _ | trivial | refine List.forall_mem_cons.2 ⟨?_, ?_⟩)) | (intro _; simp [RV.flatP, CD.flatP, hs1]; done)) ?_ | refine CallAtG.mk _ (fun _ => ga ..) ?_ | refine CallDS.mk _ (by simp [RV.data]) (fun _ => ga ..) (by first | (intro h; cases h; done) | (intro _; repeat' (first | exact List.forall_mem_nil _ | trivial | refine List.forall_mem_cons.2 ⟨?_, ?_⟩)) | (intro _; simp [RV.flatP, CD.flatP, hs1]; done)) ?_ | refine CallAt.mk _ (gb ..) (by first | (intro h; cases h; done) | (intro _; repeat' (first | exact List.forall_mem_nil _ | trivial | refine List.forall_mem_cons.2 ⟨?_, ?_⟩)) | (intro _; simp [RV.flatP, CD.flatP, hs1]; done)) ?_ | refine CallAtG.mk _ (fun _ => gb ..) ?_ | refine CallDS.mk _ (by simp [RV.data]) (fun _ => gb ..) (by first | (intro h; cases h; done) | (intro _; repeat' (first | exact List.forall_mem_nil _ | trivial | refine List.forall_mem_cons.2 ⟨?_, ?_⟩)) | (intro _; simp [RV.flatP, CD.flatP, hs1]; done)) ?_); try simp (disch := omega) only [go_sem, seval, reduceCtorEq, ↓reduceIte, beq_dec, Int.toNat_natCast, IntKind.signed, IntKind.bits, hs1]) | refine And.intro (fun hc => (?_ : AW _ _ _ _)) (fun hc => (?_ : AW _ _ _ _)) | simp (disch := omega) only [go_sem, seval, reduceCtorEq, ↓reduceIte, beq_dec, Int.toNat_natCast, IntKind.signed, IntKind.bits, hs1] | (refine And.intro ?_ ?_; focus (first | (intros; omega) | (intros; simp_all; done))) | refine And.intro (?_ : CallAt _ _ _ _ _ _ _ _) ?_ | refine And.intro (?_ : CallAt _ _ _ _ _ _ _ _ ∧ _) ?_ | refine And.intro (?_ : AW _ _ _ _) ?_ | fail))
              refine .mk (i + 1) (by omega) (by omega) ?_
              rw [hA, hB]
              simp (disch := omega) only [go_sem, seval, reduceCtorEq, ↓reduceIte, beq_dec, Int.toNat_natCast, IntKind.signed, IntKind.bits, Int.natCast_add, Int.natCast_one]
            · have er : rowC sd (nth l i) = (nth l i).obv := by obtain rfl : sd = 0 := by omega
                                                                rfl
              have ec : colC sd (nth l i) = (nth l i).rev := by obtain rfl : sd = 0 := by omega
                                                                rfl
              rw [er] at ga
              rw [ec] at gb
              have hs1 : (sd = 1) = False := eq_false hs
              (repeat' (first | refine NextAt.mk (fun hc => ?_) (fun pre n v post hc hkey => ?_) | refine Sni.mk (fun hc => ?_) ?_ | refine Both.mk ?_ ?_ | refine AW_seq ?_ | refine AW_block ?_ | ((first | refine AW_reg ?_ | refine AW_cond ?_ | refine AW_skip ?_ | refine AW_exit ?_ | refine AW_ret ?_ | refine AW_regD (by kernel_rfl) ?_ | refine AW_regX (by kernel_rfl) ?_ | refine CallAtG.t (Eq.refl true) ?_ | refine CallAtG.f (Eq.refl false) ?_ | refine CallAt.mk _ (ga ..) (by first | (intro h; cases h; done) | (intro _; repeat' (first | exact List.forall_mem_nil _ | trivial | refine List.forall_mem_cons.2 ⟨?_, ?_⟩)) | (intro _; simp [RV.flatP, CD.flatP, hs1]; done)) ?_ | refine CallAtG.mk _ (fun _ => ga ..) ?_ | refine CallDS.mk _ (by simp [RV.data]) (fun _ => ga ..) (by first | (intro h; cases h; done) | (intro _; repeat' (first | exact List.forall_mem_nil _ | trivial | refine List.forall_mem_cons.2 ⟨?_, ?_⟩)) | (intro _; simp [RV.flatP, CD.flatP, hs1]; done)) ?_ | refine CallAt.mk _ (gb ..) (by first | (intro h; cases h; done) | (intro _; repeat' (first | exact List.forall_mem_nil _ | trivial | refine List.forall_mem_cons.2 ⟨?_, ?_⟩)) | (intro _; simp [RV.flatP, CD.flatP, hs1]; done)) ?_ | refine CallAtG.mk _ (fun _ => gb ..) ?_ | refine CallDS.mk _ (by simp [RV.data]) (fun _ => gb ..) (by first | (intro h; cases h; done) | (intro _; repeat' (first | exact List.forall_mem_nil _ | trivial | refine List.forall_mem_cons.2 ⟨?_, ?_⟩)) | (intro _; simp [RV.flatP, CD.flatP, hs1]; done)) ?_); try simp (disch := omega) only [go_sem, seval, reduceCtorEq, ↓reduceIte, beq_dec, Int.toNat_natCast, IntKind.signed, IntKind.bits, hs1]) | refine And.intro (fun hc => (?_ : AW _ _ _ _)) (fun hc => (?_ : AW _ _ _ _)) | simp (disch := omega) only [go_sem, seval, reduceCtorEq, ↓reduceIte, beq_dec, Int.toNat_natCast, IntKind.signed, IntKind.bits, hs1] | (refine And.intro ?_ ?_; focus (first | (intros; omega) | (intros; simp_all; done))) | refine And.intro (?_ : CallAt _ _ _ _ _ _ _ _) ?_ | refine And.intro (?_ : CallAt _ _ _ _ _ _ _ _ ∧ _) ?_ | refine And.intro (?_ : AW _ _ _ _) ?_ | fail))
              refine .mk (i + 1) (by omega) (by omega) ?_
              rw [hA, hB]
              simp (disch := omega) only [go_sem, seval, reduceCtorEq, ↓reduceIte, beq_dec, Int.toNat_natCast, IntKind.signed, IntKind.bits, Int.natCast_add, Int.natCast_one]
          · obtain rfl : i = l.length := by omega
            rw [hR, hC, rowV_ne hRn, rowV_ne hCn]
            have hkk : ((l.length : Int) < (l.length : Int)) = False := eq_false (by omega)
            rcases Nat.lt_or_ge 7 (colsN sd l).length with h4 | h4
            · have z1 : decide ((7 : Int) < ((colsN sd l).length : Int)) = true := decide_eq_true (by omega)
              (repeat' (first | refine NextAt.mk (fun hc => ?_) (fun pre n v post hc hkey => ?_) | refine Sni.mk (fun hc => ?_) ?_ | refine Both.mk ?_ ?_ | refine AW_seq ?_ | refine AW_block ?_ | ((first | refine AW_reg ?_ | refine AW_cond ?_ | refine AW_skip ?_ | refine AW_exit ?_ | refine AW_ret ?_ | refine AW_regD (by kernel_rfl) ?_ | refine AW_regX (by kernel_rfl) ?_ | refine CallAtG.t (Eq.refl true) ?_ | refine CallAtG.f (Eq.refl false) ?_); try simp (disch := omega) only [go_sem, seval, reduceCtorEq, ↓reduceIte, beq_dec, Int.toNat_natCast, IntKind.signed, IntKind.bits, List.length_map, z1, h4, hkk]) | refine And.intro (fun hc => (?_ : AW _ _ _ _)) (fun hc => (?_ : AW _ _ _ _)) | simp (disch := omega) only [go_sem, seval, reduceCtorEq, ↓reduceIte, beq_dec, Int.toNat_natCast, IntKind.signed, IntKind.bits, List.length_map, z1, h4, hkk] | (refine And.intro ?_ ?_; focus (first | (intros; omega) | (intros; simp_all; done))) | refine And.intro (?_ : CallAt _ _ _ _ _ _ _ _) ?_ | refine And.intro (?_ : CallAt _ _ _ _ _ _ _ _ ∧ _) ?_ | refine And.intro (?_ : AW _ _ _ _) ?_ | fail))
            · have z1 : decide ((7 : Int) < ((colsN sd l).length : Int)) = false := decide_eq_false (by omega)
              have z2 : decide ((16 : Int) < ((rowsN sd l).length : Int)) = true := decide_eq_true (by omega)
              (repeat' (first | refine NextAt.mk (fun hc => ?_) (fun pre n v post hc hkey => ?_) | refine Sni.mk (fun hc => ?_) ?_ | refine Both.mk ?_ ?_ | refine AW_seq ?_ | refine AW_block ?_ | ((first | refine AW_reg ?_ | refine AW_cond ?_ | refine AW_skip ?_ | refine AW_exit ?_ | refine AW_ret ?_ | refine AW_regD (by kernel_rfl) ?_ | refine AW_regX (by kernel_rfl) ?_ | refine CallAtG.t (Eq.refl true) ?_ | refine CallAtG.f (Eq.refl false) ?_); try simp (disch := omega) only [go_sem, seval, reduceCtorEq, ↓reduceIte, beq_dec, Int.toNat_natCast, IntKind.signed, IntKind.bits, List.length_map, z1, z2, hkk]) | refine And.intro (fun hc => (?_ : AW _ _ _ _)) (fun hc => (?_ : AW _ _ _ _)) | simp (disch := omega) only [go_sem, seval, reduceCtorEq, ↓reduceIte, beq_dec, Int.toNat_natCast, IntKind.signed, IntKind.bits, List.length_map, z1, z2, hkk] | (refine And.intro ?_ ?_; focus (first | (intros; omega) | (intros; simp_all; done))) | refine And.intro (?_ : CallAt _ _ _ _ _ _ _ _) ?_ | refine And.intro (?_ : CallAt _ _ _ _ _ _ _ _ ∧ _) ?_ | refine And.intro (?_ : AW _ _ _ _) ?_ | fail))
set_option maxHeartbeats 8000000 in
theorem r6 (l : List Cn) (sd : Int) (h0 : ofE sd l = 0) (hne : l ≠ []) : FnR Try.prog 6 [.c (Cns l), .I sd] [.c (.I (ofN sd l)), .c (refT sd l), .c (.I (ofE sd l))] := by
  have g19 := r19 l
  have h1 : chkC l = 0 := by
    unfold ofE at h0
    split at h0
    · omega
    · omega
  have hl := chk_len h1
  have h2 : ¬ (sd ≠ 0 ∧ sd ≠ 1) := fun h => by unfold ofE at h0; rw [if_neg (by omega), if_pos h] at h0; omega
  have h3 : ¬ (7 < (colsN sd l).length ∨ 16 < (rowsN sd l).length) := fun h => by unfold ofE at h0; rw [if_neg (by omega), if_neg h2, if_pos h] at h0; omega
  have e2 : ofN sd l = (colsN sd l).length := by unfold ofN; rw [if_pos h0]
  have e3 : refT sd l = Tab (tabT sd l) := by unfold refT; rw [if_pos h0, if_neg hne]
  rw [h0, e2, e3]
  have hsd : (!decide (sd = 0) && !decide (sd = 1)) = false := by
    by_cases h0 : sd = 0
    · simp [h0]
    · by_cases h3 : sd = 1
      · simp [h3]
      · omega
  have hn0 : 0 < l.length := List.length_pos_iff.2 hne
  have hR : inss (fun i => rowC sd (nth l i)) l.length = rowsN sd l := inss_cs (rowC sd) l
  have hC : inss (fun i => colC sd (nth l i)) l.length = colsN sd l := inss_cs (colC sd) l
  have hRn : rowsN sd l ≠ [] := fun e => by have := row_in sd l hn0; rw [e] at this; cases this
  have hCn : colsN sd l ≠ [] := fun e => by have := col_in sd l hn0; rw [e] at this; cases this
  rw [h1] at g19
  refine fn_walk code6 (by simp) ?_
  (repeat' (first | refine NextAt.mk (fun hc => ?_) (fun pre n v post hc hkey => ?_) | refine Sni.mk (fun hc => ?_) ?_ | refine Both.mk ?_ ?_ | refine AW_seq ?_ | refine AW_block ?_ | ((first | refine AW_reg ?_ | refine AW_cond ?_ | refine AW_skip ?_ | refine AW_exit ?_ | refine AW_ret ?_ | refine AW_regD (by kernel_rfl) ?_ | refine AW_regX (by kernel_rfl) ?_ | refine CallAtG.t (Eq.refl true) ?_ | refine CallAtG.f (Eq.refl false) ?_ | refine CallAt.mk _ (g19 ..) (by first | (intro h; cases h; done) | (intro _; repeat' (first | exact List.forall_mem_nil _ | trivial | refine List.forall_mem_cons.2 ⟨?_, ?_⟩)) | (intro _; simp [RV.flatP, CD.flatP, hsd]; done)) ?_ | refine CallAtG.mk _ (fun _ => g19 ..) ?_ | refine CallDS.mk _ (by simp [RV.data]) (fun _ => g19 ..) (by first | (intro h; cases h; done) | (intro _; repeat' (first | exact List.forall_mem_nil _ | trivial | refine List.forall_mem_cons.2 ⟨?_, ?_⟩)) | (intro _; simp [RV.flatP, CD.flatP, hsd]; done)) ?_); try simp (disch := omega) only [go_sem, seval, reduceCtorEq, ↓reduceIte, beq_dec, Int.toNat_natCast, IntKind.signed, IntKind.bits, hsd]) | refine And.intro (fun hc => (?_ : AW _ _ _ _)) (fun hc => (?_ : AW _ _ _ _)) | simp (disch := omega) only [go_sem, seval, reduceCtorEq, ↓reduceIte, beq_dec, Int.toNat_natCast, IntKind.signed, IntKind.bits, hsd] | (refine And.intro ?_ ?_; focus (first | (intros; omega) | (intros; simp_all; done))) | refine And.intro (?_ : CallAt _ _ _ _ _ _ _ _) ?_ | refine And.intro (?_ : CallAt _ _ _ _ _ _ _ _ ∧ _) ?_ | refine And.intro (?_ : AW _ _ _ _) ?_ | fail))
  refine AW_loopK [0, 1] [8, 9, 10, 11, 12, 33, 34, 35, 36, 37, 38, 39, 40, 41, 42, 43, 44, 45, 46, 47, 48, 49, 50, 51, 52, 53, 54, 55, 56, 57, 58] (fun i : Nat => i ≤ l.length) (fun i => [(8, .c (rowV (inss (fun i => rowC sd (nth l i)) i))), (9, .c (rowV (inss (fun i => colC sd (nth l i)) i))), (10, .I i)]) (fun _ => []) (fun i => l.length - i) 0 (by omega) ?_ ?_
  · simp (disch := omega) only [go_sem, seval, reduceCtorEq, ↓reduceIte, beq_dec, Int.toNat_natCast, IntKind.signed, IntKind.bits, Int.natCast_zero, inss, rowV]
  · intro i hi
    rcases Nat.lt_or_ge i l.length with hil | hil
    · have ga := r20V (inss (fun i => rowC sd (nth l i)) i) (rowC sd (nth l i)) (by have := inss_len (fun i => rowC sd (nth l i)) i; omega)
      have gb := r20V (inss (fun i => colC sd (nth l i)) i) (colC sd (nth l i)) (by have := inss_len (fun i => colC sd (nth l i)) i; omega)
      have ra : inss (fun i => rowC sd (nth l i)) (i + 1) = insA (inss (fun i => rowC sd (nth l i)) i) (rowC sd (nth l i)) := rfl
      have rb : inss (fun i => colC sd (nth l i)) (i + 1) = insA (inss (fun i => colC sd (nth l i)) i) (colC sd (nth l i)) := rfl
      rw [← ra] at ga
      rw [← rb] at gb
      have hkk : ((i : Int) < (l.length : Int)) = True := eq_true (by omega)
      have hge : (l.map Cn.cd).getD i [] = [.I (nth l i).id, .I (nth l i).obv, .I (nth l i).rev, .I (nth l i).ost, .I (nth l i).rst, .I (nth l i).ax, .I (nth l i).wt] := getD_map Cn.cd l i [] hil
      generalize hA : inss (fun i => rowC sd (nth l i)) (i + 1) = A' at *
      generalize hB : inss (fun i => colC sd (nth l i)) (i + 1) = B' at *
      (repeat' (first | (with_reducible refine hold20k ?_; try simp (disch := omega) only [go_sem, seval, reduceCtorEq, ↓reduceIte, beq_dec, Int.toNat_natCast, IntKind.signed, IntKind.bits, hge, Int.toNat_natCast, List.length_map, hkk]) | refine NextAt.mk (fun hc => ?_) (fun pre n v post hc hkey => ?_) | refine Sni.mk (fun hc => ?_) ?_ | refine Both.mk ?_ ?_ | refine AW_seq ?_ | refine AW_block ?_ | ((first | refine AW_reg ?_ | refine AW_cond ?_ | refine AW_skip ?_ | refine AW_exit ?_ | refine AW_ret ?_ | refine AW_regD (by kernel_rfl) ?_ | refine AW_regX (by kernel_rfl) ?_ | refine CallAtG.t (Eq.refl true) ?_ | refine CallAtG.f (Eq.refl false) ?_); try simp (disch := omega) only [go_sem, seval, reduceCtorEq, ↓reduceIte, beq_dec, Int.toNat_natCast, IntKind.signed, IntKind.bits, hge, Int.toNat_natCast, List.length_map, hkk]) | refine And.intro (fun hc => (?_ : AW _ _ _ _)) (fun hc => (?_ : AW _ _ _ _)) | simp (disch := omega) only [go_sem, seval, reduceCtorEq, ↓reduceIte, beq_dec, Int.toNat_natCast, IntKind.signed, IntKind.bits, hge, Int.toNat_natCast, List.length_map, hkk] | (refine And.intro ?_ ?_; focus (first | (intros; omega) | (intros; simp_all; done))) | refine And.intro (?_ : CallAt _ _ _ _ _ _ _ _) ?_ | refine And.intro (?_ : CallAt _ _ _ _ _ _ _ _ ∧ _) ?_ | refine And.intro (?_ : AW _ _ _ _) ?_ | fail))
      constructor
      by_cases hs : sd = 1
      · have er : rowC sd (nth l i) = (nth l i).rev := by subst hs; rfl
        have ec : colC sd (nth l i) = (nth l i).obv := by subst hs; rfl
        rw [er] at ga
        rw [ec] at gb
        have hs1 : (sd = 1) = True := eq_true hs
        (repeat' (first | refine NextAt.mk (fun hc => ?_) (fun pre n v post hc hkey => ?_) | refine Sni.mk (fun hc => ?_) ?_ | refine Both.mk ?_ ?_ | refine AW_seq ?_ | refine AW_block ?_ | ((first | refine AW_reg ?_ | refine AW_cond ?_ | refine AW_skip ?_ | refine AW_exit ?_ | refine AW_ret ?_ | refine AW_regD (by kernel_rfl) ?_ | refine AW_regX (by kernel_rfl) ?_ | refine CallAtG.t (Eq.refl true) ?_ | refine CallAtG.f (Eq.refl false) ?_ | refine CallAt.mk _ (ga ..) (by first | (intro h; cases h; done) | (intro _; repeat' (first | exact List.forall_mem_nil _ | trivial | refine List.forall_mem_cons.2 ⟨?_, ?_⟩)) | (intro _; simp [RV.flatP, CD.flatP, hs1]; done)) ?_ | refine CallAtG.mk _ (fun _ => ga ..) ?_ | refine CallDS.mk _ (by simp [RV.data]) (fun _ => ga ..) (by first | (intro h; cases h; done) | (intro _; repeat' (first | exact List.forall_mem_nil _ | trivial | refine List.forall_mem_cons.2 ⟨?_, ?_⟩)) | (intro _; simp [RV.flatP, CD.flatP, hs1]; done)) ?_ | refine CallAt.mk _ (gb ..) (by first | (intro h; cases h; done) | (intro _; repeat' (first | exact List.forall_mem_nil _ | trivial | refine List.forall_mem_cons.2 ⟨?_, ?_⟩)) | (intro _; simp [RV.flatP, CD.flatP, hs1]; done)) ?_ | refine CallAtG.mk _ (fun _ => gb ..) ?_ | refine CallDS.mk _ (by simp [RV.data]) (fun _ => gb ..) (by first | (intro h; cases h; done) | (intro _; repeat' (first | exact List.forall_mem_nil _ | trivial | refine List.forall_mem_cons.2 ⟨?_, ?_⟩)) | (intro _; simp [RV.flatP, CD.flatP, hs1]; done)) ?_); try simp (disch := omega) only [go_sem, seval, reduceCtorEq, ↓reduceIte, beq_dec, Int.toNat_natCast, IntKind.signed, IntKind.bits, hs1]) | refine And.intro (fun hc => (?_ : AW _ _ _ _)) (fun hc => (?_ : AW _ _ _ _)) | simp (disch := omega) only [go_sem, seval, reduceCtorEq, ↓reduceIte, beq_dec, Int.toNat_natCast, IntKind.signed, IntKind.bits, hs1] | (refine And.intro ?_ ?_; focus (first | (intros; omega) | (intros; simp_all; done))) | refine And.intro (?_ : CallAt _ _ _ _ _ _ _ _) ?_ | refine And.intro (?_ : CallAt _ _ _ _ _ _ _ _ ∧ _) ?_ | refine And.intro (?_ : AW _ _ _ _) ?_ | fail))
        refine .mk (i + 1) (by omega) (by omega) ?_
        rw [hA, hB]
        simp (disch := omega) only [go_sem, seval, reduceCtorEq, ↓reduceIte, beq_dec, Int.toNat_natCast, IntKind.signed, IntKind.bits, Int.natCast_add, Int.natCast_one]
      · have er : rowC sd (nth l i) = (nth l i).obv := by obtain rfl : sd = 0 := by omega
                                                          rfl
        have ec : colC sd (nth l i) = (nth l i).rev := by obtain rfl : sd = 0 := by omega
                                                          rfl
        rw [er] at ga
        rw [ec] at gb
        have hs1 : (sd = 1) = False := eq_false hs
        (repeat' (first | refine NextAt.mk (fun hc => ?_) (fun pre n v post hc hkey => ?_) | refine Sni.mk (fun hc => ?_) ?_ | refine Both.mk ?_ ?_ | refine AW_seq ?_ | refine AW_block ?_ | ((first | refine AW_reg ?_ | refine AW_cond ?_ | refine AW_skip ?_ | refine AW_exit ?_ | refine AW_ret ?_ | refine AW_regD (by kernel_rfl) ?_ | refine AW_regX (by kernel_rfl) ?_ | refine CallAtG.t (Eq.refl true) ?_ | refine CallAtG.f (Eq.refl false) ?_ | refine CallAt.mk _ (ga ..) (by first | (intro h; cases h; done) | (intro _; repeat' (first | exact List.forall_mem_nil _ | trivial | refine List.forall_mem_cons.2 ⟨?_, ?_⟩)) | (intro _; simp [RV.flatP, CD.flatP, hs1]; done)) ?_ | refine CallAtG.mk _ (fun _ => ga ..) ?_ | refine CallDS.mk _ (by simp [RV.data]) (fun _ => ga ..) (by first | (intro h; cases h; done) | (intro _; repeat' (first | exact List.forall_mem_nil _ | trivial | refine List.forall_mem_cons.2 ⟨?_, ?_⟩)) | (intro _; simp [RV.flatP, CD.flatP, hs1]; done)) ?_ | refine CallAt.mk _ (gb ..) (by first | (intro h; cases h; done) | (intro _; repeat' (first | exact List.forall_mem_nil _ | trivial | refine List.forall_mem_cons.2 ⟨?_, ?_⟩)) | (intro _; simp [RV.flatP, CD.flatP, hs1]; done)) ?_ | refine CallAtG.mk _ (fun _ => gb ..) ?_ | refine CallDS.mk _ (by simp [RV.data]) (fun _ => gb ..) (by first | (intro h; cases h; done) | (intro _; repeat' (first | exact List.forall_mem_nil _ | trivial | refine List.forall_mem_cons.2 ⟨?_, ?_⟩)) | (intro _; simp [RV.flatP, CD.flatP, hs1]; done)) ?_); try simp (disch := omega) only [go_sem, seval, reduceCtorEq, ↓reduceIte, beq_dec, Int.toNat_natCast, IntKind.signed, IntKind.bits, hs1]) | refine And.intro (fun hc => (?_ : AW _ _ _ _)) (fun hc => (?_ : AW _ _ _ _)) | simp (disch := omega) only [go_sem, seval, reduceCtorEq, ↓reduceIte, beq_dec, Int.toNat_natCast, IntKind.signed, IntKind.bits, hs1] | (refine And.intro ?_ ?_; focus (first | (intros; omega) | (intros; simp_all; done))) | refine And.intro (?_ : CallAt _ _ _ _ _ _ _ _) ?_ | refine And.intro (?_ : CallAt _ _ _ _ _ _ _ _ ∧ _) ?_ | refine And.intro (?_ : AW _ _ _ _) ?_ | fail))
        refine .mk (i + 1) (by omega) (by omega) ?_
        rw [hA, hB]
        simp (disch := omega) only [go_sem, seval, reduceCtorEq, ↓reduceIte, beq_dec, Int.toNat_natCast, IntKind.signed, IntKind.bits, Int.natCast_add, Int.natCast_one]
    · obtain rfl : i = l.length := by omega
      rw [hR, hC, rowV_ne hRn, rowV_ne hCn]
      have z1 : decide ((7 : Int) < ((colsN sd l).length : Int)) = false := decide_eq_false (by omega)
      have z2 : decide ((16 : Int) < ((rowsN sd l).length : Int)) = false := decide_eq_false (by omega)
      have hkk : ((l.length : Int) < (l.length : Int)) = False := eq_false (by omega)
      (repeat' (first | (with_reducible refine hold43k ?_; try simp (disch := omega) only [go_sem, seval, reduceCtorEq, ↓reduceIte, beq_dec, Int.toNat_natCast, IntKind.signed, IntKind.bits, List.length_map, z1, z2, hkk]) | refine NextAt.mk (fun hc => ?_) (fun pre n v post hc hkey => ?_) | refine Sni.mk (fun hc => ?_) ?_ | refine Both.mk ?_ ?_ | refine AW_seq ?_ | refine AW_block ?_ | ((first | refine AW_reg ?_ | refine AW_cond ?_ | refine AW_skip ?_ | refine AW_exit ?_ | refine AW_ret ?_ | refine AW_regD (by kernel_rfl) ?_ | refine AW_regX (by kernel_rfl) ?_ | refine CallAtG.t (Eq.refl true) ?_ | refine CallAtG.f (Eq.refl false) ?_ | refine CallAt.mk _ (r21 ..) (by first | (intro h; cases h; done) | (intro _; repeat' (first | exact List.forall_mem_nil _ | trivial | refine List.forall_mem_cons.2 ⟨?_, ?_⟩)) | (intro _; simp [RV.flatP, CD.flatP, List.length_map, z1, z2, hkk]; done)) ?_ | refine CallAtG.mk _ (fun _ => r21 ..) ?_ | refine CallDS.mk _ (by simp [RV.data]) (fun _ => r21 ..) (by first | (intro h; cases h; done) | (intro _; repeat' (first | exact List.forall_mem_nil _ | trivial | refine List.forall_mem_cons.2 ⟨?_, ?_⟩)) | (intro _; simp [RV.flatP, CD.flatP, List.length_map, z1, z2, hkk]; done)) ?_); try simp (disch := omega) only [go_sem, seval, reduceCtorEq, ↓reduceIte, beq_dec, Int.toNat_natCast, IntKind.signed, IntKind.bits, List.length_map, z1, z2, hkk]) | refine And.intro (fun hc => (?_ : AW _ _ _ _)) (fun hc => (?_ : AW _ _ _ _)) | simp (disch := omega) only [go_sem, seval, reduceCtorEq, ↓reduceIte, beq_dec, Int.toNat_natCast, IntKind.signed, IntKind.bits, List.length_map, z1, z2, hkk] | (refine And.intro ?_ ?_; focus (first | (intros; omega) | (intros; simp_all; done))) | refine And.intro (?_ : CallAt _ _ _ _ _ _ _ _) ?_ | refine And.intro (?_ : CallAt _ _ _ _ _ _ _ _ ∧ _) ?_ | refine And.intro (?_ : AW _ _ _ _) ?_ | fail))
      constructor
      refine AW_nilB 14 2 905 54 3 51 _ (by rfl) (by rfl) ?_
      simp (disch := omega) only [go_sem, seval, reduceCtorEq, ↓reduceIte, beq_dec, Int.toNat_natCast, IntKind.signed, IntKind.bits]
      (repeat' (first | refine NextAt.mk (fun hc => ?_) (fun pre n v post hc hkey => ?_) | refine Sni.mk (fun hc => ?_) ?_ | refine Both.mk ?_ ?_ | refine AW_seq ?_ | refine AW_block ?_ | ((first | refine AW_reg ?_ | refine AW_cond ?_ | refine AW_skip ?_ | refine AW_exit ?_ | refine AW_ret ?_ | refine AW_regD (by kernel_rfl) ?_ | refine AW_regX (by kernel_rfl) ?_ | refine CallAtG.t (Eq.refl true) ?_ | refine CallAtG.f (Eq.refl false) ?_); try simp (disch := omega) only [go_sem, seval, reduceCtorEq, ↓reduceIte, beq_dec, Int.toNat_natCast, IntKind.signed, IntKind.bits]) | refine And.intro (fun hc => (?_ : AW _ _ _ _)) (fun hc => (?_ : AW _ _ _ _)) | simp (disch := omega) only [go_sem, seval, reduceCtorEq, ↓reduceIte, beq_dec, Int.toNat_natCast, IntKind.signed, IntKind.bits] | (refine And.intro ?_ ?_; focus (first | (intros; omega) | (intros; simp_all; done))) | refine And.intro (?_ : CallAt _ _ _ _ _ _ _ _) ?_ | refine And.intro (?_ : CallAt _ _ _ _ _ _ _ _ ∧ _) ?_ | refine And.intro (?_ : AW _ _ _ _) ?_ | fail))
      generalize hRg : rowsN sd l = R at *
      generalize hCg : colsN sd l = C at *
      refine AW_loopK [0, 1, 8, 9, 13, 14] [15, 68, 69, 70, 71, 72, 73, 74, 75, 76, 77, 78, 79, 80, 81, 82, 83, 84, 85, 86, 87, 88, 89, 90, 91, 92, 93, 94] (fun i : Nat => i ≤ l.length) (fun i => [(15, .I i)]) (fun i => [(14, .box 51 [.c .nil, .c .nil, .own 905]), (905, .arr 54 3 (lnkC (l.take i)))]) (fun i => l.length - i) 0 (by omega) ?_ ?_
      · simp (disch := omega) only [go_sem, seval, reduceCtorEq, ↓reduceIte, beq_dec, Int.toNat_natCast, IntKind.signed, IntKind.bits, Int.natCast_zero, List.take_zero, List.map_nil]
      · intro i hi
        rcases Nat.lt_or_ge i l.length with hil | hil
        · have hkk : ((i : Int) < (l.length : Int)) = True := eq_true (by omega)
          have hge : (l.map Cn.cd).getD i [] = [.I (nth l i).id, .I (nth l i).obv, .I (nth l i).rev, .I (nth l i).ost, .I (nth l i).rst, .I (nth l i).ax, .I (nth l i).wt] := getD_map Cn.cd l i [] hil
          have hsn := lnk_snoc l i hil
          (repeat' (first | (with_reducible refine hold47k ?_; try simp (disch := omega) only [go_sem, seval, reduceCtorEq, ↓reduceIte, beq_dec, Int.toNat_natCast, IntKind.signed, IntKind.bits, List.length_map, hkk]) | refine NextAt.mk (fun hc => ?_) (fun pre n v post hc hkey => ?_) | refine Sni.mk (fun hc => ?_) ?_ | refine Both.mk ?_ ?_ | refine AW_seq ?_ | refine AW_block ?_ | ((first | refine AW_reg ?_ | refine AW_cond ?_ | refine AW_skip ?_ | refine AW_exit ?_ | refine AW_ret ?_ | refine AW_regD (by kernel_rfl) ?_ | refine AW_regX (by kernel_rfl) ?_ | refine CallAtG.t (Eq.refl true) ?_ | refine CallAtG.f (Eq.refl false) ?_); try simp (disch := omega) only [go_sem, seval, reduceCtorEq, ↓reduceIte, beq_dec, Int.toNat_natCast, IntKind.signed, IntKind.bits, List.length_map, hkk]) | refine And.intro (fun hc => (?_ : AW _ _ _ _)) (fun hc => (?_ : AW _ _ _ _)) | simp (disch := omega) only [go_sem, seval, reduceCtorEq, ↓reduceIte, beq_dec, Int.toNat_natCast, IntKind.signed, IntKind.bits, List.length_map, hkk] | (refine And.intro ?_ ?_; focus (first | (intros; omega) | (intros; simp_all; done))) | refine And.intro (?_ : CallAt _ _ _ _ _ _ _ _) ?_ | refine And.intro (?_ : CallAt _ _ _ _ _ _ _ _ ∧ _) ?_ | refine And.intro (?_ : AW _ _ _ _) ?_ | fail))
          refine ⟨AW_cut (lk1 l (nth l i) i sd R C (lnkC (l.take i))) (lk0 l (nth l i) i sd R C (lnkC (l.take i))) (r6a l (nth l i) i sd R C _ hil hge (by simp; omega)) ?_ ?_⟩
          · unfold lk0
            simp (disch := omega) only [go_sem, seval, reduceCtorEq, ↓reduceIte, beq_dec, Int.toNat_natCast, IntKind.signed, IntKind.bits]
          · unfold lk1
            rw [← hsn]
            (repeat' (first | refine NextAt.mk (fun hc => ?_) (fun pre n v post hc hkey => ?_) | refine Sni.mk (fun hc => ?_) ?_ | refine Both.mk ?_ ?_ | refine AW_seq ?_ | refine AW_block ?_ | ((first | refine AW_reg ?_ | refine AW_cond ?_ | refine AW_skip ?_ | refine AW_exit ?_ | refine AW_ret ?_ | refine AW_regD (by kernel_rfl) ?_ | refine AW_regX (by kernel_rfl) ?_ | refine CallAtG.t (Eq.refl true) ?_ | refine CallAtG.f (Eq.refl false) ?_); try simp (disch := omega) only [go_sem, seval, reduceCtorEq, ↓reduceIte, beq_dec, Int.toNat_natCast, IntKind.signed, IntKind.bits]) | refine And.intro (fun hc => (?_ : AW _ _ _ _)) (fun hc => (?_ : AW _ _ _ _)) | simp (disch := omega) only [go_sem, seval, reduceCtorEq, ↓reduceIte, beq_dec, Int.toNat_natCast, IntKind.signed, IntKind.bits] | (refine And.intro ?_ ?_; focus (first | (intros; omega) | (intros; simp_all; done))) | refine And.intro (?_ : CallAt _ _ _ _ _ _ _ _) ?_ | refine And.intro (?_ : CallAt _ _ _ _ _ _ _ _ ∧ _) ?_ | refine And.intro (?_ : AW _ _ _ _) ?_ | fail))
            refine .mk (i + 1) (by omega) (by omega) ?_
            simp (disch := omega) only [go_sem, seval, reduceCtorEq, ↓reduceIte, beq_dec, Int.toNat_natCast, IntKind.signed, IntKind.bits, Int.natCast_add, Int.natCast_one]
        · obtain rfl : i = l.length := by omega
          rw [List.take_length]
          have hkk : ((l.length : Int) < (l.length : Int)) = False := eq_false (by omega)
          (repeat' (first | (with_reducible refine hold55k ?_; try simp (disch := omega) only [go_sem, seval, reduceCtorEq, ↓reduceIte, beq_dec, Int.toNat_natCast, IntKind.signed, IntKind.bits, List.length_map, hkk]) | refine NextAt.mk (fun hc => ?_) (fun pre n v post hc hkey => ?_) | refine Sni.mk (fun hc => ?_) ?_ | refine Both.mk ?_ ?_ | refine AW_seq ?_ | refine AW_block ?_ | ((first | refine AW_reg ?_ | refine AW_cond ?_ | refine AW_skip ?_ | refine AW_exit ?_ | refine AW_ret ?_ | refine AW_regD (by kernel_rfl) ?_ | refine AW_regX (by kernel_rfl) ?_ | refine CallAtG.t (Eq.refl true) ?_ | refine CallAtG.f (Eq.refl false) ?_); try simp (disch := omega) only [go_sem, seval, reduceCtorEq, ↓reduceIte, beq_dec, Int.toNat_natCast, IntKind.signed, IntKind.bits, List.length_map, hkk]) | refine And.intro (fun hc => (?_ : AW _ _ _ _)) (fun hc => (?_ : AW _ _ _ _)) | simp (disch := omega) only [go_sem, seval, reduceCtorEq, ↓reduceIte, beq_dec, Int.toNat_natCast, IntKind.signed, IntKind.bits, List.length_map, hkk] | (refine And.intro ?_ ?_; focus (first | (intros; omega) | (intros; simp_all; done))) | refine And.intro (?_ : CallAt _ _ _ _ _ _ _ _) ?_ | refine And.intro (?_ : CallAt _ _ _ _ _ _ _ _ ∧ _) ?_ | refine And.intro (?_ : AW _ _ _ _) ?_ | fail))
          refine ⟨AW_frz [905] ?_⟩
          simp (disch := omega) only [go_sem, seval, reduceCtorEq, ↓reduceIte, beq_dec, Int.toNat_natCast, IntKind.signed, IntKind.bits]
          refine AW_nil 13 906 31 1 (by rfl) ?_
          simp (disch := omega) only [go_sem, seval, reduceCtorEq, ↓reduceIte, beq_dec, Int.toNat_natCast, IntKind.signed, IntKind.bits]
          (repeat' (first | refine NextAt.mk (fun hc => ?_) (fun pre n v post hc hkey => ?_) | refine Sni.mk (fun hc => ?_) ?_ | refine Both.mk ?_ ?_ | refine AW_seq ?_ | refine AW_block ?_ | ((first | refine AW_reg ?_ | refine AW_cond ?_ | refine AW_skip ?_ | refine AW_exit ?_ | refine AW_ret ?_ | refine AW_regD (by kernel_rfl) ?_ | refine AW_regX (by kernel_rfl) ?_ | refine CallAtG.t (Eq.refl true) ?_ | refine CallAtG.f (Eq.refl false) ?_); try simp (disch := omega) only [go_sem, seval, reduceCtorEq, ↓reduceIte, beq_dec, Int.toNat_natCast, IntKind.signed, IntKind.bits]) | refine And.intro (fun hc => (?_ : AW _ _ _ _)) (fun hc => (?_ : AW _ _ _ _)) | simp (disch := omega) only [go_sem, seval, reduceCtorEq, ↓reduceIte, beq_dec, Int.toNat_natCast, IntKind.signed, IntKind.bits] | (refine And.intro ?_ ?_; focus (first | (intros; omega) | (intros; simp_all; done))) | refine And.intro (?_ : CallAt _ _ _ _ _ _ _ _) ?_ | refine And.intro (?_ : CallAt _ _ _ _ _ _ _ _ ∧ _) ?_ | refine And.intro (?_ : AW _ _ _ _) ?_ | fail))
          have hC7 : C.length ≤ 7 := by omega
          have hR16 : R.length ≤ 16 := by omega
          refine AW_loopK [1, 8, 9, 14] [13, 16, 17, 18, 19, 20, 21, 95, 96, 97, 98, 99, 100, 101, 102, 103, 104, 105, 106, 107, 108, 109, 110, 111, 112, 113, 114, 115, 116, 117, 118, 119, 120, 121, 122, 123, 124, 125, 126, 127, 128, 129, 130, 131, 132, 133, 134, 135, 136, 137, 138, 139, 140, 141, 142, 143, 144, 145, 146, 147, 148, 149, 150] (fun h : Nat => h ≤ R.length) (fun h => [(13, .own 906), (16, .I h)]) (fun h => [(906, .arr 31 1 ((List.range h).map fun r => [Row (rowT sd l r)])), (14, .box 51 [.c .nil, .c .nil, .c (.sl 3 (lnkC l))])]) (fun h => R.length - h) 0 (by omega) ?_ ?_
          · simp (disch := omega) only [go_sem, seval, reduceCtorEq, ↓reduceIte, beq_dec, Int.toNat_natCast, IntKind.signed, IntKind.bits, Int.natCast_zero, List.range_zero, List.map_nil]
          · intro h hh16
            rcases Nat.lt_or_ge h R.length with hhl | hhl
            · have hkk : ((h : Int) < (R.length : Int)) = True := eq_true (by omega)
              (repeat' (first | refine NextAt.mk (fun hc => ?_) (fun pre n v post hc hkey => ?_) | refine Sni.mk (fun hc => ?_) ?_ | refine Both.mk ?_ ?_ | refine AW_seq ?_ | refine AW_block ?_ | ((first | refine AW_reg ?_ | refine AW_cond ?_ | refine AW_skip ?_ | refine AW_exit ?_ | refine AW_ret ?_ | refine AW_regD (by kernel_rfl) ?_ | refine AW_regX (by kernel_rfl) ?_ | refine CallAtG.t (Eq.refl true) ?_ | refine CallAtG.f (Eq.refl false) ?_); try simp (disch := omega) only [go_sem, seval, reduceCtorEq, ↓reduceIte, beq_dec, Int.toNat_natCast, IntKind.signed, IntKind.bits, List.length_map, hkk]) | refine And.intro (fun hc => (?_ : AW _ _ _ _)) (fun hc => (?_ : AW _ _ _ _)) | simp (disch := omega) only [go_sem, seval, reduceCtorEq, ↓reduceIte, beq_dec, Int.toNat_natCast, IntKind.signed, IntKind.bits, List.length_map, hkk] | (refine And.intro ?_ ?_; focus (first | (intros; omega) | (intros; simp_all; done))) | refine And.intro (?_ : CallAt _ _ _ _ _ _ _ _) ?_ | refine And.intro (?_ : CallAt _ _ _ _ _ _ _ _ ∧ _) ?_ | refine And.intro (?_ : AW _ _ _ _) ?_ | fail))
              refine AW_loopK [1, 8, 9, 13, 14, 16] [17, 18, 19, 20, 21, 101, 102, 103, 104, 105, 106, 107, 108, 109, 110, 111, 112, 113, 114, 115, 116, 117, 118, 119, 120, 121, 122, 123, 124, 125, 126, 127, 128, 129, 130, 131, 132, 133, 134, 135, 136, 137, 138, 139, 140, 141, 142, 143, 144, 145, 146] (fun k : Nat => k ≤ C.length) (fun k => [(17, .c (rowV (rowK (hitC sd l h) l.length k))), (18, .I k)]) (fun _ => []) (fun k => C.length - k) 0 (by omega) ?_ ?_
              · simp (disch := omega) only [go_sem, seval, reduceCtorEq, ↓reduceIte, beq_dec, Int.toNat_natCast, IntKind.signed, IntKind.bits, Int.natCast_zero, rowK, rowV]
              · intro k hk7
                rcases Nat.lt_or_ge k C.length with hkl | hkl
                · have hkk : ((k : Int) < (C.length : Int)) = True := eq_true (by omega)
                  have hK : rowK (hitC sd l h) l.length (k + 1) = rowJ (hitC sd l h k) k (rowK (hitC sd l h) l.length k) l.length := rfl
                  have hKl := rowK_len (hitC sd l h) l.length k
                  have hKm : k * l.length ≤ 7 * 64 := Nat.mul_le_mul (by omega) (by omega)
                  have hgR := getD_map (fun x : Int => [CD.I x]) R h [] hhl
                  have hgC := getD_map (fun x : Int => [CD.I x]) C k [] hkl
                  (repeat' (first | refine NextAt.mk (fun hc => ?_) (fun pre n v post hc hkey => ?_) | refine Sni.mk (fun hc => ?_) ?_ | refine Both.mk ?_ ?_ | refine AW_seq ?_ | refine AW_block ?_ | ((first | refine AW_reg ?_ | refine AW_cond ?_ | refine AW_skip ?_ | refine AW_exit ?_ | refine AW_ret ?_ | refine AW_regD (by kernel_rfl) ?_ | refine AW_regX (by kernel_rfl) ?_ | refine CallAtG.t (Eq.refl true) ?_ | refine CallAtG.f (Eq.refl false) ?_); try simp (disch := omega) only [go_sem, seval, reduceCtorEq, ↓reduceIte, beq_dec, Int.toNat_natCast, IntKind.signed, IntKind.bits, List.length_map, hkk]) | refine And.intro (fun hc => (?_ : AW _ _ _ _)) (fun hc => (?_ : AW _ _ _ _)) | simp (disch := omega) only [go_sem, seval, reduceCtorEq, ↓reduceIte, beq_dec, Int.toNat_natCast, IntKind.signed, IntKind.bits, List.length_map, hkk] | (refine And.intro ?_ ?_; focus (first | (intros; omega) | (intros; simp_all; done))) | refine And.intro (?_ : CallAt _ _ _ _ _ _ _ _) ?_ | refine And.intro (?_ : CallAt _ _ _ _ _ _ _ _ ∧ _) ?_ | refine And.intro (?_ : AW _ _ _ _) ?_ | fail))
                  generalize rowK (hitC sd l h) l.length k = K0 at *
                  refine AW_loopK [1, 8, 9, 13, 14, 16, 18] [17, 19, 20, 21, 107, 108, 109, 110, 111, 112, 113, 114, 115, 116, 117, 118, 119, 120, 121, 122, 123, 124, 125, 126, 127, 128, 129, 130, 131, 132, 133, 134, 135, 136, 137, 138, 139, 140, 141, 142, 143, 144, 145, 146] (fun j : Nat => j ≤ l.length) (fun j => [(17, .c (rowV (rowJ (hitC sd l h k) k K0 j))), (19, .I j)]) (fun _ => []) (fun j => l.length - j) 0 (by omega) ?_ ?_
                  · simp (disch := omega) only [go_sem, seval, reduceCtorEq, ↓reduceIte, beq_dec, Int.toNat_natCast, IntKind.signed, IntKind.bits, Int.natCast_zero, rowJ]
                  · intro j hj64
                    rcases Nat.lt_or_ge j l.length with hjl | hjl
                    · have hge := show ((j : Int) < (l.length : Int)) = True from eq_true (by omega)
                      have hge2 : (lnkC l).getD j [] = [.I (nth l j).id, .I (nth l j).obv, .I (nth l j).rev] := getD_map lkC l j [] hjl
                      have hlJ := rowJ_len (hitC sd l h k) k K0 j
                      have g20 := r20V (rowJ (hitC sd l h k) k K0 j) k (by omega)
                      have hj1 : hitC sd l h k j = true → rowJ (hitC sd l h k) k K0 (j + 1) = insA (rowJ (hitC sd l h k) k K0 j) k := fun e => by simp only [rowJ]; rw [if_pos e]
                      have hj0 : hitC sd l h k j = false → rowJ (hitC sd l h k) k K0 (j + 1) = rowJ (hitC sd l h k) k K0 j := fun e => by simp only [rowJ]; rw [if_neg (by rw [e]; simp)]
                      have hh : hitC sd l h k j = (decide (rowC sd (nth l j) = nth R h) && decide (colC sd (nth l j) = nth C k)) := by unfold hitC; rw [hRg, hCg]
                      by_cases hs : sd = 1
                      · have er : rowC sd (nth l j) = (nth l j).rev := by subst hs; rfl
                        have ec : colC sd (nth l j) = (nth l j).obv := by subst hs; rfl
                        have hs1 : (sd = 1) = True := eq_true hs
                        rw [er, ec] at hh
                        by_cases hx : (nth l j).rev = nth R h
                        · have hx1 := eq_true hx
                          by_cases hy : (nth l j).obv = nth C k
                          · have hy1 := eq_true hy
                            simp only [hx1, hy1, decide_true, Bool.and_true] at hh
                            have hJ := hj1 hh
                            rw [← hJ] at g20
                            (repeat' (first | refine NextAt.mk (fun hc => ?_) (fun pre n v post hc hkey => ?_) | refine Sni.mk (fun hc => ?_) ?_ | refine Both.mk ?_ ?_ | refine AW_seq ?_ | refine AW_block ?_ | ((first | refine AW_reg ?_ | refine AW_cond ?_ | refine AW_skip ?_ | refine AW_exit ?_ | refine AW_ret ?_ | refine AW_regD (by kernel_rfl) ?_ | refine AW_regX (by kernel_rfl) ?_ | refine CallAtG.t (Eq.refl true) ?_ | refine CallAtG.f (Eq.refl false) ?_ | refine CallAt.mk _ (g20 ..) (by first | (intro h; cases h; done) | (intro _; repeat' (first | exact List.forall_mem_nil _ | trivial | refine List.forall_mem_cons.2 ⟨?_, ?_⟩)) | (intro _; simp [RV.flatP, CD.flatP, hge, hge2, hgR, hgC, Int.toNat_natCast, List.length_map, hs1, hx1, hy1]; done)) ?_ | refine CallAtG.mk _ (fun _ => g20 ..) ?_ | refine CallDS.mk _ (by simp [RV.data]) (fun _ => g20 ..) (by first | (intro h; cases h; done) | (intro _; repeat' (first | exact List.forall_mem_nil _ | trivial | refine List.forall_mem_cons.2 ⟨?_, ?_⟩)) | (intro _; simp [RV.flatP, CD.flatP, hge, hge2, hgR, hgC, Int.toNat_natCast, List.length_map, hs1, hx1, hy1]; done)) ?_); try simp (disch := omega) only [go_sem, seval, reduceCtorEq, ↓reduceIte, beq_dec, Int.toNat_natCast, IntKind.signed, IntKind.bits, hge, hge2, hgR, hgC, Int.toNat_natCast, List.length_map, hs1, hx1, hy1]) | refine And.intro (fun hc => (?_ : AW _ _ _ _)) (fun hc => (?_ : AW _ _ _ _)) | simp (disch := omega) only [go_sem, seval, reduceCtorEq, ↓reduceIte, beq_dec, Int.toNat_natCast, IntKind.signed, IntKind.bits, hge, hge2, hgR, hgC, Int.toNat_natCast, List.length_map, hs1, hx1, hy1] | (refine And.intro ?_ ?_; focus (first | (intros; omega) | (intros; simp_all; done))) | refine And.intro (?_ : CallAt _ _ _ _ _ _ _ _) ?_ | refine And.intro (?_ : CallAt _ _ _ _ _ _ _ _ ∧ _) ?_ | refine And.intro (?_ : AW _ _ _ _) ?_ | fail))
                            refine .mk (j + 1) (by omega) (by omega) ?_
                            simp (disch := omega) only [go_sem, seval, reduceCtorEq, ↓reduceIte, beq_dec, Int.toNat_natCast, IntKind.signed, IntKind.bits, Int.natCast_add, Int.natCast_one]
                          · have hy1 := eq_false hy
                            simp only [hx1, hy1, decide_false, Bool.and_false] at hh
                            have hJ := hj0 hh
                            (repeat' (first | refine NextAt.mk (fun hc => ?_) (fun pre n v post hc hkey => ?_) | refine Sni.mk (fun hc => ?_) ?_ | refine Both.mk ?_ ?_ | refine AW_seq ?_ | refine AW_block ?_ | ((first | refine AW_reg ?_ | refine AW_cond ?_ | refine AW_skip ?_ | refine AW_exit ?_ | refine AW_ret ?_ | refine AW_regD (by kernel_rfl) ?_ | refine AW_regX (by kernel_rfl) ?_ | refine CallAtG.t (Eq.refl true) ?_ | refine CallAtG.f (Eq.refl false) ?_); try simp (disch := omega) only [go_sem, seval, reduceCtorEq, ↓reduceIte, beq_dec, Int.toNat_natCast, IntKind.signed, IntKind.bits, hge, hge2, hgR, hgC, Int.toNat_natCast, List.length_map, hs1, hx1, hy1]) | refine And.intro (fun hc => (?_ : AW _ _ _ _)) (fun hc => (?_ : AW _ _ _ _)) | simp (disch := omega) only [go_sem, seval, reduceCtorEq, ↓reduceIte, beq_dec, Int.toNat_natCast, IntKind.signed, IntKind.bits, hge, hge2, hgR, hgC, Int.toNat_natCast, List.length_map, hs1, hx1, hy1] | (refine And.intro ?_ ?_; focus (first | (intros; omega) | (intros; simp_all; done))) | refine And.intro (?_ : CallAt _ _ _ _ _ _ _ _) ?_ | refine And.intro (?_ : CallAt _ _ _ _ _ _ _ _ ∧ _) ?_ | refine And.intro (?_ : AW _ _ _ _) ?_ | fail))
                            refine .mk (j + 1) (by omega) (by omega) ?_
                            rw [hJ]
                            simp (disch := omega) only [go_sem, seval, reduceCtorEq, ↓reduceIte, beq_dec, Int.toNat_natCast, IntKind.signed, IntKind.bits, Int.natCast_add, Int.natCast_one]
                        · have hx1 := eq_false hx
                          simp only [hx1, decide_false, Bool.false_and] at hh
                          have hJ := hj0 hh
                          (repeat' (first | refine NextAt.mk (fun hc => ?_) (fun pre n v post hc hkey => ?_) | refine Sni.mk (fun hc => ?_) ?_ | refine Both.mk ?_ ?_ | refine AW_seq ?_ | refine AW_block ?_ | ((first | refine AW_reg ?_ | refine AW_cond ?_ | refine AW_skip ?_ | refine AW_exit ?_ | refine AW_ret ?_ | refine AW_regD (by kernel_rfl) ?_ | refine AW_regX (by kernel_rfl) ?_ | refine CallAtG.t (Eq.refl true) ?_ | refine CallAtG.f (Eq.refl false) ?_); try simp (disch := omega) only [go_sem, seval, reduceCtorEq, ↓reduceIte, beq_dec, Int.toNat_natCast, IntKind.signed, IntKind.bits, hge, hge2, hgR, hgC, Int.toNat_natCast, List.length_map, hs1, hx1]) | refine And.intro (fun hc => (?_ : AW _ _ _ _)) (fun hc => (?_ : AW _ _ _ _)) | simp (disch := omega) only [go_sem, seval, reduceCtorEq, ↓reduceIte, beq_dec, Int.toNat_natCast, IntKind.signed, IntKind.bits, hge, hge2, hgR, hgC, Int.toNat_natCast, List.length_map, hs1, hx1] | (refine And.intro ?_ ?_; focus (first | (intros; omega) | (intros; simp_all; done))) | refine And.intro (?_ : CallAt _ _ _ _ _ _ _ _) ?_ | refine And.intro (?_ : CallAt _ _ _ _ _ _ _ _ ∧ _) ?_ | refine And.intro (?_ : AW _ _ _ _) ?_ | fail))
                          refine .mk (j + 1) (by omega) (by omega) ?_
                          rw [hJ]
                          simp (disch := omega) only [go_sem, seval, reduceCtorEq, ↓reduceIte, beq_dec, Int.toNat_natCast, IntKind.signed, IntKind.bits, Int.natCast_add, Int.natCast_one]
                      have hs0 : sd = 0 := by omega
                      have er : rowC sd (nth l j) = (nth l j).obv := by rw [hs0]; rfl
                      have ec : colC sd (nth l j) = (nth l j).rev := by rw [hs0]; rfl
                      have hs1 : (sd = 1) = False := eq_false hs
                      rw [er, ec] at hh
                      by_cases hx : (nth l j).obv = nth R h
                      · have hx1 := eq_true hx
                        by_cases hy : (nth l j).rev = nth C k
                        · have hy1 := eq_true hy
                          simp only [hx1, hy1, decide_true, Bool.and_true] at hh
                          have hJ := hj1 hh
                          rw [← hJ] at g20
                          (repeat' (first | refine NextAt.mk (fun hc => ?_) (fun pre n v post hc hkey => ?_) | refine Sni.mk (fun hc => ?_) ?_ | refine Both.mk ?_ ?_ | refine AW_seq ?_ | refine AW_block ?_ | ((first | refine AW_reg ?_ | refine AW_cond ?_ | refine AW_skip ?_ | refine AW_exit ?_ | refine AW_ret ?_ | refine AW_regD (by kernel_rfl) ?_ | refine AW_regX (by kernel_rfl) ?_ | refine CallAtG.t (Eq.refl true) ?_ | refine CallAtG.f (Eq.refl false) ?_ | refine CallAt.mk _ (g20 ..) (by first | (intro h; cases h; done) | (intro _; repeat' (first | exact List.forall_mem_nil _ | trivial | refine List.forall_mem_cons.2 ⟨?_, ?_⟩)) | (intro _; simp [RV.flatP, CD.flatP, hge, hge2, hgR, hgC, Int.toNat_natCast, List.length_map, hs1, hx1, hy1]; done)) ?_ | refine CallAtG.mk _ (fun _ => g20 ..) ?_ | refine CallDS.mk _ (by simp [RV.data]) (fun _ => g20 ..) (by first | (intro h; cases h; done) | (intro _; repeat' (first | exact List.forall_mem_nil _ | trivial | refine List.forall_mem_cons.2 ⟨?_, ?_⟩)) | (intro _; simp [RV.flatP, CD.flatP, hge, hge2, hgR, hgC, Int.toNat_natCast, List.length_map, hs1, hx1, hy1]; done)) ?_); try simp (disch := omega) only [go_sem, seval, reduceCtorEq, ↓reduceIte, beq_dec, Int.toNat_natCast, IntKind.signed, IntKind.bits, hge, hge2, hgR, hgC, Int.toNat_natCast, List.length_map, hs1, hx1, hy1]) | refine And.intro (fun hc => (?_ : AW _ _ _ _)) (fun hc => (?_ : AW _ _ _ _)) | simp (disch := omega) only [go_sem, seval, reduceCtorEq, ↓reduceIte, beq_dec, Int.toNat_natCast, IntKind.signed, IntKind.bits, hge, hge2, hgR, hgC, Int.toNat_natCast, List.length_map, hs1, hx1, hy1] | (refine And.intro ?_ ?_; focus (first | (intros; omega) | (intros; simp_all; done))) | refine And.intro (?_ : CallAt _ _ _ _ _ _ _ _) ?_ | refine And.intro (?_ : CallAt _ _ _ _ _ _ _ _ ∧ _) ?_ | refine And.intro (?_ : AW _ _ _ _) ?_ | fail))
                          refine .mk (j + 1) (by omega) (by omega) ?_
                          simp (disch := omega) only [go_sem, seval, reduceCtorEq, ↓reduceIte, beq_dec, Int.toNat_natCast, IntKind.signed, IntKind.bits, Int.natCast_add, Int.natCast_one]
                        · have hy1 := eq_false hy
                          simp only [hx1, hy1, decide_false, Bool.and_false] at hh
                          have hJ := hj0 hh
                          (repeat' (first | refine NextAt.mk (fun hc => ?_) (fun pre n v post hc hkey => ?_) | refine Sni.mk (fun hc => ?_) ?_ | refine Both.mk ?_ ?_ | refine AW_seq ?_ | refine AW_block ?_ | ((first | refine AW_reg ?_ | refine AW_cond ?_ | refine AW_skip ?_ | refine AW_exit ?_ | refine AW_ret ?_ | refine AW_regD (by kernel_rfl) ?_ | refine AW_regX (by kernel_rfl) ?_ | refine CallAtG.t (Eq.refl true) ?_ | refine CallAtG.f (Eq.refl false) ?_); try simp (disch := omega) only [go_sem, seval, reduceCtorEq, ↓reduceIte, beq_dec, Int.toNat_natCast, IntKind.signed, IntKind.bits, hge, hge2, hgR, hgC, Int.toNat_natCast, List.length_map, hs1, hx1, hy1]) | refine And.intro (fun hc => (?_ : AW _ _ _ _)) (fun hc => (?_ : AW _ _ _ _)) | simp (disch := omega) only [go_sem, seval, reduceCtorEq, ↓reduceIte, beq_dec, Int.toNat_natCast, IntKind.signed, IntKind.bits, hge, hge2, hgR, hgC, Int.toNat_natCast, List.length_map, hs1, hx1, hy1] | (refine And.intro ?_ ?_; focus (first | (intros; omega) | (intros; simp_all; done))) | refine And.intro (?_ : CallAt _ _ _ _ _ _ _ _) ?_ | refine And.intro (?_ : CallAt _ _ _ _ _ _ _ _ ∧ _) ?_ | refine And.intro (?_ : AW _ _ _ _) ?_ | fail))
                          refine .mk (j + 1) (by omega) (by omega) ?_
                          rw [hJ]
                          simp (disch := omega) only [go_sem, seval, reduceCtorEq, ↓reduceIte, beq_dec, Int.toNat_natCast, IntKind.signed, IntKind.bits, Int.natCast_add, Int.natCast_one]
                      · have hx1 := eq_false hx
                        simp only [hx1, decide_false, Bool.false_and] at hh
                        have hJ := hj0 hh
                        (repeat' (first | refine NextAt.mk (fun hc => ?_) (fun pre n v post hc hkey => ?_) | refine Sni.mk (fun hc => ?_) ?_ | refine Both.mk ?_ ?_ | refine AW_seq ?_ | refine AW_block ?_ | ((first | refine AW_reg ?_ | refine AW_cond ?_ | refine AW_skip ?_ | refine AW_exit ?_ | refine AW_ret ?_ | refine AW_regD (by kernel_rfl) ?_ | refine AW_regX (by kernel_rfl) ?_ | refine CallAtG.t (Eq.refl true) ?_ | refine CallAtG.f (Eq.refl false) ?_); try simp (disch := omega) only [go_sem, seval, reduceCtorEq, ↓reduceIte, beq_dec, Int.toNat_natCast, IntKind.signed, IntKind.bits, hge, hge2, hgR, hgC, Int.toNat_natCast, List.length_map, hs1, hx1]) | refine And.intro (fun hc => (?_ : AW _ _ _ _)) (fun hc => (?_ : AW _ _ _ _)) | simp (disch := omega) only [go_sem, seval, reduceCtorEq, ↓reduceIte, beq_dec, Int.toNat_natCast, IntKind.signed, IntKind.bits, hge, hge2, hgR, hgC, Int.toNat_natCast, List.length_map, hs1, hx1] | (refine And.intro ?_ ?_; focus (first | (intros; omega) | (intros; simp_all; done))) | refine And.intro (?_ : CallAt _ _ _ _ _ _ _ _) ?_ | refine And.intro (?_ : CallAt _ _ _ _ _ _ _ _ ∧ _) ?_ | refine And.intro (?_ : AW _ _ _ _) ?_ | fail))
                        refine .mk (j + 1) (by omega) (by omega) ?_
                        rw [hJ]
                        simp (disch := omega) only [go_sem, seval, reduceCtorEq, ↓reduceIte, beq_dec, Int.toNat_natCast, IntKind.signed, IntKind.bits, Int.natCast_add, Int.natCast_one]
                    · obtain rfl : j = l.length := by omega
                      have hge := show ((l.length : Int) < (l.length : Int)) = False from eq_false (by omega)
                      (repeat' (first | refine NextAt.mk (fun hc => ?_) (fun pre n v post hc hkey => ?_) | refine Sni.mk (fun hc => ?_) ?_ | refine Both.mk ?_ ?_ | refine AW_seq ?_ | refine AW_block ?_ | ((first | refine AW_reg ?_ | refine AW_cond ?_ | refine AW_skip ?_ | refine AW_exit ?_ | refine AW_ret ?_ | refine AW_regD (by kernel_rfl) ?_ | refine AW_regX (by kernel_rfl) ?_ | refine CallAtG.t (Eq.refl true) ?_ | refine CallAtG.f (Eq.refl false) ?_); try simp (disch := omega) only [go_sem, seval, reduceCtorEq, ↓reduceIte, beq_dec, Int.toNat_natCast, IntKind.signed, IntKind.bits, hge, List.length_map]) | refine And.intro (fun hc => (?_ : AW _ _ _ _)) (fun hc => (?_ : AW _ _ _ _)) | simp (disch := omega) only [go_sem, seval, reduceCtorEq, ↓reduceIte, beq_dec, Int.toNat_natCast, IntKind.signed, IntKind.bits, hge, List.length_map] | (refine And.intro ?_ ?_; focus (first | (intros; omega) | (intros; simp_all; done))) | refine And.intro (?_ : CallAt _ _ _ _ _ _ _ _) ?_ | refine And.intro (?_ : CallAt _ _ _ _ _ _ _ _ ∧ _) ?_ | refine And.intro (?_ : AW _ _ _ _) ?_ | fail))
                      refine .mk (k + 1) (by omega) (by omega) ?_
                      rw [hK]
                      simp (disch := omega) only [go_sem, seval, reduceCtorEq, ↓reduceIte, beq_dec, Int.toNat_natCast, IntKind.signed, IntKind.bits, Int.natCast_add, Int.natCast_one]
                · obtain rfl : k = C.length := by omega
                  have hkk : ((C.length : Int) < (C.length : Int)) = False := eq_false (by omega)
                  have hT : rowK (hitC sd l h) l.length C.length = rowT sd l h := by unfold rowT; rw [hCg]
                  rw [hT, rowV_ne (rowT_ne sd l h (by rw [hRg]; exact hhl))]
                  (repeat' (first | refine NextAt.mk (fun hc => ?_) (fun pre n v post hc hkey => ?_) | refine Sni.mk (fun hc => ?_) ?_ | refine Both.mk ?_ ?_ | refine AW_seq ?_ | refine AW_block ?_ | ((first | refine AW_reg ?_ | refine AW_cond ?_ | refine AW_skip ?_ | refine AW_exit ?_ | refine AW_ret ?_ | refine AW_regD (by kernel_rfl) ?_ | refine AW_regX (by kernel_rfl) ?_ | refine CallAtG.t (Eq.refl true) ?_ | refine CallAtG.f (Eq.refl false) ?_); try simp (disch := omega) only [go_sem, seval, reduceCtorEq, ↓reduceIte, beq_dec, Int.toNat_natCast, IntKind.signed, IntKind.bits, hkk, List.length_map, List.length_range, maxLen]) | refine And.intro (fun hc => (?_ : AW _ _ _ _)) (fun hc => (?_ : AW _ _ _ _)) | simp (disch := omega) only [go_sem, seval, reduceCtorEq, ↓reduceIte, beq_dec, Int.toNat_natCast, IntKind.signed, IntKind.bits, hkk, List.length_map, List.length_range, maxLen] | (refine And.intro ?_ ?_; focus (first | (intros; omega) | (intros; simp_all; done))) | refine And.intro (?_ : CallAt _ _ _ _ _ _ _ _) ?_ | refine And.intro (?_ : CallAt _ _ _ _ _ _ _ _ ∧ _) ?_ | refine And.intro (?_ : AW _ _ _ _) ?_ | fail))
                  refine .mk (h + 1) (by omega) (by omega) ?_
                  rw [List.range_succ, List.map_append]
                  simp (disch := omega) only [go_sem, seval, reduceCtorEq, ↓reduceIte, beq_dec, Int.toNat_natCast, IntKind.signed, IntKind.bits, Int.natCast_add, Int.natCast_one, List.map_cons, List.map_nil]
            · obtain rfl : h = R.length := by omega
              have hkk : ((R.length : Int) < (R.length : Int)) = False := eq_false (by omega)
              (repeat' (first | (with_reducible refine hold103k ?_; try simp (disch := omega) only [go_sem, seval, reduceCtorEq, ↓reduceIte, beq_dec, Int.toNat_natCast, IntKind.signed, IntKind.bits, List.length_map, hkk]) | refine NextAt.mk (fun hc => ?_) (fun pre n v post hc hkey => ?_) | refine Sni.mk (fun hc => ?_) ?_ | refine Both.mk ?_ ?_ | refine AW_seq ?_ | refine AW_block ?_ | ((first | refine AW_reg ?_ | refine AW_cond ?_ | refine AW_skip ?_ | refine AW_exit ?_ | refine AW_ret ?_ | refine AW_regD (by kernel_rfl) ?_ | refine AW_regX (by kernel_rfl) ?_ | refine CallAtG.t (Eq.refl true) ?_ | refine CallAtG.f (Eq.refl false) ?_); try simp (disch := omega) only [go_sem, seval, reduceCtorEq, ↓reduceIte, beq_dec, Int.toNat_natCast, IntKind.signed, IntKind.bits, List.length_map, hkk]) | refine And.intro (fun hc => (?_ : AW _ _ _ _)) (fun hc => (?_ : AW _ _ _ _)) | simp (disch := omega) only [go_sem, seval, reduceCtorEq, ↓reduceIte, beq_dec, Int.toNat_natCast, IntKind.signed, IntKind.bits, List.length_map, hkk] | (refine And.intro ?_ ?_; focus (first | (intros; omega) | (intros; simp_all; done))) | refine And.intro (?_ : CallAt _ _ _ _ _ _ _ _) ?_ | refine And.intro (?_ : CallAt _ _ _ _ _ _ _ _ ∧ _) ?_ | refine And.intro (?_ : AW _ _ _ _) ?_ | fail))
              refine ⟨AW_frz [906] ?_⟩
              have hfin : ((List.range R.length).map fun r => [Row (rowT sd l r)]) = (tabT sd l).map fun r => [Row r] := by
                unfold tabT; rw [List.map_map, hRg]; rfl
              rw [hfin]
              simp (disch := omega) only [go_sem, seval, reduceCtorEq, ↓reduceIte, beq_dec, Int.toNat_natCast, IntKind.signed, IntKind.bits]
              (repeat' (first | refine NextAt.mk (fun hc => ?_) (fun pre n v post hc hkey => ?_) | refine Sni.mk (fun hc => ?_) ?_ | refine Both.mk ?_ ?_ | refine AW_seq ?_ | refine AW_block ?_ | ((first | refine AW_reg ?_ | refine AW_cond ?_ | refine AW_skip ?_ | refine AW_exit ?_ | refine AW_ret ?_ | refine AW_regD (by kernel_rfl) ?_ | refine AW_regX (by kernel_rfl) ?_ | refine CallAtG.t (Eq.refl true) ?_ | refine CallAtG.f (Eq.refl false) ?_); try simp (disch := omega) only [go_sem, seval, reduceCtorEq, ↓reduceIte, beq_dec, Int.toNat_natCast, IntKind.signed, IntKind.bits, List.length_map]) | refine And.intro (fun hc => (?_ : AW _ _ _ _)) (fun hc => (?_ : AW _ _ _ _)) | simp (disch := omega) only [go_sem, seval, reduceCtorEq, ↓reduceIte, beq_dec, Int.toNat_natCast, IntKind.signed, IntKind.bits, List.length_map] | (refine And.intro ?_ ?_; focus (first | (intros; omega) | (intros; simp_all; done))) | refine And.intro (?_ : CallAt _ _ _ _ _ _ _ _) ?_ | refine And.intro (?_ : CallAt _ _ _ _ _ _ _ _ ∧ _) ?_ | refine And.intro (?_ : AW _ _ _ _) ?_ | fail))
end Go.Proofs.Ytddhinbiahcjlaa

