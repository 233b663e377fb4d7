/-
  Lemmas for the proof: no statement of its own.
-/
import Derived.Test.YtlomngideedobaaWalkF
set_option linter.unusedVariables false
set_option linter.unusedSimpArgs false
-- P p_14.txt
open Go Go.AL Go.RowKit
namespace Go.Proofs.Ytlomngideedobaa
set_option maxRecDepth 20000
theorem pI_o (g : List Lk) (l : List Die) (i : Nat) (hi : i < l.length) : ∀ m, i < m → m ≤ l.length → nth (pI g l m).o i = nth (pI g l (i + 1)).o i
  | 0, h, _ => by omega
  | m + 1, h, hm => by
    by_cases e : i = m
    · rw [e]
    · rw [← pI_o g l i hi m (by omega) (by omega), pI_succ g l m (by omega)]
      obtain ⟨a, _⟩ := pI_len g l m (by omega)
      unfold pstep
      split <;> (simp only; rw [nth_app, if_neg (by omega)])
theorem pI_step (g : List Lk) (l : List Die) (i : Nat) (hi : i < l.length) : 0 ≤ nth (pI g l l.length).o i ∧ nth (pI g l l.length).o i ≤ (pI g l i).p ∧ (pI g l (i + 1)).p = if nth (pI g l l.length).o i = (pI g l i).p then (pI g l i).p + 1 else (pI g l i).p := by
  rw [pI_o g l i hi l.length hi (Nat.le_refl _), pI_succ g l i hi]
  obtain ⟨a, b, _, _⟩ := pI_len g l i (by omega)
  obtain ⟨_, c, _⟩ := pI_far g l i (by omega)
  unfold pstep
  split
  · rename_i v hv
    have := c _ _ hv
    simp only
    rw [nth_app, if_pos a.symm, if_neg (by omega)]
    exact ⟨by omega, by omega, rfl⟩
  · simp only
    rw [nth_app, if_pos a.symm, if_pos rfl]
    exact ⟨by omega, by omega, rfl⟩
theorem chS_p (g : List Lk) (l : List Die) : ∀ i, i ≤ l.length → ((chS (pI g l l.length).o l i).length : Int) = (pI g l i).p
  | 0, _ => by simp [chS, pI, pS]
  | i + 1, h => by
    have ih := chS_p g l i (by omega)
    obtain ⟨_, _, h3⟩ := pI_step g l i (by omega)
    rw [h3]
    simp only [chS, List.length_set, chT]
    rw [ih]
    split
    · simp [ih]
    · exact ih
theorem partsG_pI (g : Gr) : partsG g = (pI g.links (diesG g) (diesG g).length).o := by unfold partsG pI; rw [List.take_length]
def chG (g : Gr) : List (List Die) := chS (partsG g) (diesG g) (diesG g).length
theorem f20v (g : Gr) (hv : validG g = true) : FnR Try.prog 20 [g.av] [.c (CL (chG g)), .c (.I 0)] := by
  have g41 := f41 g
  have g19 := f19 g
  have e0 : errV g = 0 := by unfold errV; rw [hv]; rfl
  have e2 : partsE g = partsG g := by unfold partsE; rw [hv]; rfl
  rw [dies_valid hv, e0] at g41
  rw [e0, e2] at g19
  have hlen := dies_len g
  have hsm := valid_small hv
  have hpl : (partsG g).length = (diesG g).length := by rw [partsG_pI]; exact (pI_len g.links _ _ (Nat.le_refl _)).1
  have := f20w g (diesG g) (partsG g) g41 g19 hpl (by omega) fun i hi => by
    have h1 := pI_step g.links (diesG g) i hi
    have h2 := chS_p g.links (diesG g) i (by omega)
    rw [partsG_pI, h2]
    exact ⟨h1.1, h1.2.1⟩
  rw [rowsCD_chC] at this
  exact this
theorem f20e (g : Gr) (hv : validG g = false) : FnR Try.prog 20 [g.av] [.c .nil, .c (.I 1)] := by
  have g19 := f19 g
  have e0 : errV g = 1 := by unfold errV; rw [hv]; rfl
  have e2 : partsE g = [] := by unfold partsE; rw [hv]; rfl
  rw [e0, e2] at g19
  refine fn_walk code20 (by simp) ?_
  (repeat' (first | refine NextAt.mk (fun hc => ?_) (fun pre n v post hc hkey => ?_) | refine Sni.mk (fun hc => ?_) ?_ | refine Both.mk ?_ ?_ | refine AW_seq ?_ | refine AW_block ?_ | ((first | refine AW_reg ?_ | refine AW_cond ?_ | refine AW_skip ?_ | refine AW_exit ?_ | refine AW_ret ?_ | refine AW_regD (by kernel_rfl) ?_ | refine AW_regX (by kernel_rfl) ?_ | refine CallAtG.t (Eq.refl true) ?_ | refine CallAtG.f (Eq.refl false) ?_ | refine CallAt.mk _ (g19 ..) (by first | (intro h; cases h; done) | (intro _; repeat' (first | exact List.forall_mem_nil _ | trivial | refine List.forall_mem_cons.2 ⟨?_, ?_⟩)) | (intro _; simp [RV.flatP, CD.flatP]; done)) ?_ | refine CallAtG.mk _ (fun _ => g19 ..) ?_ | refine CallDS.mk _ (by simp [RV.data]) (fun _ => g19 ..) (by first | (intro h; cases h; done) | (intro _; repeat' (first | exact List.forall_mem_nil _ | trivial | refine List.forall_mem_cons.2 ⟨?_, ?_⟩)) | (intro _; simp [RV.flatP, CD.flatP]; done)) ?_); try simp (disch := omega) only [go_sem, seval, reduceCtorEq, ↓reduceIte, beq_dec, Int.toNat_natCast, IntKind.signed, IntKind.bits]) | refine And.intro (fun hc => (?_ : AW _ _ _ _)) (fun hc => (?_ : AW _ _ _ _)) | simp (disch := omega) only [go_sem, seval, reduceCtorEq, ↓reduceIte, beq_dec, Int.toNat_natCast, IntKind.signed, IntKind.bits] | (refine And.intro ?_ ?_; focus (first | (intros; omega) | (intros; simp_all; done))) | refine And.intro (?_ : CallAt _ _ _ _ _ _ _ _) ?_ | refine And.intro (?_ : CallAt _ _ _ _ _ _ _ _ ∧ _) ?_ | refine And.intro (?_ : AW _ _ _ _) ?_ | fail))
theorem f21v (g : Gr) (hv : validG g = true) : FnR Try.prog 21 [g.av] [.c (.I ((g.links.length : Int) - g.obv.length - g.rev.length + (chG g).length)), .c (.I 0)] := by
  have hlen := dies_len g
  have hsm := valid_small hv
  exact f21w g (chG g) (f20v g hv) hsm (by have := chS_len (partsG g) (diesG g) (diesG g).length; unfold chG; omega)
theorem f21e (g : Gr) (hv : validG g = false) : FnR Try.prog 21 [g.av] [.c (.I 0), .c (.I 1)] := by
  have g20 := f20e g hv
  refine fn_walk code21 (by simp) ?_
  (repeat' (first | refine NextAt.mk (fun hc => ?_) (fun pre n v post hc hkey => ?_) | refine Sni.mk (fun hc => ?_) ?_ | refine Both.mk ?_ ?_ | refine AW_seq ?_ | refine AW_block ?_ | ((first | refine AW_reg ?_ | refine AW_cond ?_ | refine AW_skip ?_ | refine AW_exit ?_ | refine AW_ret ?_ | refine AW_regD (by kernel_rfl) ?_ | refine AW_regX (by kernel_rfl) ?_ | refine CallAtG.t (Eq.refl true) ?_ | refine CallAtG.f (Eq.refl false) ?_ | refine CallAt.mk _ (g20 ..) (by first | (intro h; cases h; done) | (intro _; repeat' (first | exact List.forall_mem_nil _ | trivial | refine List.forall_mem_cons.2 ⟨?_, ?_⟩)) | (intro _; simp [RV.flatP, CD.flatP]; done)) ?_ | refine CallAtG.mk _ (fun _ => g20 ..) ?_ | refine CallDS.mk _ (by simp [RV.data]) (fun _ => g20 ..) (by first | (intro h; cases h; done) | (intro _; repeat' (first | exact List.forall_mem_nil _ | trivial | refine List.forall_mem_cons.2 ⟨?_, ?_⟩)) | (intro _; simp [RV.flatP, CD.flatP]; done)) ?_); try simp (disch := omega) only [go_sem, seval, reduceCtorEq, ↓reduceIte, beq_dec, Int.toNat_natCast, IntKind.signed, IntKind.bits]) | refine And.intro (fun hc => (?_ : AW _ _ _ _)) (fun hc => (?_ : AW _ _ _ _)) | simp (disch := omega) only [go_sem, seval, reduceCtorEq, ↓reduceIte, beq_dec, Int.toNat_natCast, IntKind.signed, IntKind.bits] | (refine And.intro ?_ ?_; focus (first | (intros; omega) | (intros; simp_all; done))) | refine And.intro (?_ : CallAt _ _ _ _ _ _ _ _) ?_ | refine And.intro (?_ : CallAt _ _ _ _ _ _ _ _ ∧ _) ?_ | refine And.intro (?_ : AW _ _ _ _) ?_ | fail))
end Go.Proofs.Ytlomngideedobaa

-- P p_14.txt
open Go Go.AL Go.RowKit
namespace Go.Proofs.Ytlomngideedobaa
set_option maxRecDepth 20000
def mixF (l : List Die) (a b : NF) (k : Nat) : List Int := outF (l.take k) a ++ outF (l.drop k) b
theorem outF_len (l : List Die) (f : NF) : (outF l f).length = l.length := by simp [outF]
theorem mixF_len (l : List Die) (a b : NF) (k : Nat) : (mixF l a b k).length = l.length := by simp [mixF, outF]; omega
theorem mixF_zero (l : List Die) (a b : NF) : mixF l a b 0 = outF l b := by simp [mixF, outF]
theorem mixF_end (l : List Die) (a b : NF) : mixF l a b l.length = outF l a := by simp [mixF, outF]
theorem mixF_set (l : List Die) (a b : NF) (k : Nat) (h : k < l.length) : (mixF l a b k).set k ((a (nth l k)).getD (-1)) = mixF l a b (k + 1) := by
  unfold mixF
  have h1 : (outF (l.take k) a).length = k := by simp [outF]; omega
  rw [List.set_append_right _ _ (by omega), h1, Nat.sub_self, List.take_succ_eq_append_getElem h, List.drop_eq_getElem_cons h, nth_eq l k h]
  unfold outF
  rw [List.map_append, List.map_cons, List.set_cons_zero, List.append_assoc]; rfl
theorem mixF_same (l : List Die) (a b : NF) (k : Nat) (h : k < l.length) (he : (a (nth l k)).getD (-1) = (b (nth l k)).getD (-1)) : mixF l a b k = mixF l a b (k + 1) := by
  unfold mixF
  rw [List.take_succ_eq_append_getElem h, List.drop_eq_getElem_cons h]
  rw [nth_eq l k h] at he
  unfold outF
  rw [List.map_append, List.map_cons, List.append_assoc, ← he]; rfl
theorem nth_outF (l : List Die) (f : NF) (i : Nat) (h : i < l.length) : nth (outF l f) i = (f (nth l i)).getD (-1) := by
  rw [nth_eq _ i (by simpa [outF] using h), nth_eq l i h]
  simp [outF]
set_option maxHeartbeats 4000000 in
theorem f22 (g : Gr) : FnR Try.prog 22 [g.av] [ORow (partsE g), .c (.I (errV g))] := by
  have g37 := f37 g
  cases hv : validG g with
  | false =>
    have e0 : errV g = 1 := by unfold errV; rw [hv]; rfl
    have e1 : partsE g = [] := by unfold partsE; rw [hv]; rfl
    rw [e0] at g37 ⊢
    rw [e1]
    refine fn_walk code22 (by simp) ?_
    (repeat' (first | refine NextAt.mk (fun hc => ?_) (fun pre n v post hc hkey => ?_) | refine Sni.mk (fun hc => ?_) ?_ | refine Both.mk ?_ ?_ | refine AW_seq ?_ | refine AW_block ?_ | ((first | refine AW_reg ?_ | refine AW_cond ?_ | refine AW_skip ?_ | refine AW_exit ?_ | refine AW_ret ?_ | refine AW_regD (by kernel_rfl) ?_ | refine AW_regX (by kernel_rfl) ?_ | refine CallAtG.t (Eq.refl true) ?_ | refine CallAtG.f (Eq.refl false) ?_ | refine CallAt.mk _ (g37 ..) (by first | (intro h; cases h; done) | (intro _; repeat' (first | exact List.forall_mem_nil _ | trivial | refine List.forall_mem_cons.2 ⟨?_, ?_⟩)) | (intro _; simp [RV.flatP, CD.flatP]; done)) ?_ | refine CallAtG.mk _ (fun _ => g37 ..) ?_ | refine CallDS.mk _ (by simp [RV.data]) (fun _ => g37 ..) (by first | (intro h; cases h; done) | (intro _; repeat' (first | exact List.forall_mem_nil _ | trivial | refine List.forall_mem_cons.2 ⟨?_, ?_⟩)) | (intro _; simp [RV.flatP, CD.flatP]; done)) ?_); try simp (disch := omega) only [go_sem, seval, reduceCtorEq, ↓reduceIte, beq_dec, Int.toNat_natCast, IntKind.signed, IntKind.bits]) | refine And.intro (fun hc => (?_ : AW _ _ _ _)) (fun hc => (?_ : AW _ _ _ _)) | simp (disch := omega) only [go_sem, seval, reduceCtorEq, ↓reduceIte, beq_dec, Int.toNat_natCast, IntKind.signed, IntKind.bits] | (refine And.intro ?_ ?_; focus (first | (intros; omega) | (intros; simp_all; done))) | refine And.intro (?_ : CallAt _ _ _ _ _ _ _ _) ?_ | refine And.intro (?_ : CallAt _ _ _ _ _ _ _ _ ∧ _) ?_ | refine And.intro (?_ : AW _ _ _ _) ?_ | fail))
  | true =>
    have e0 : errV g = 0 := by unfold errV; rw [hv]; rfl
    have e1 : partsE g = outF (diesG g) (pI g.links (diesG g) (diesG g).length).f := by unfold partsE; rw [hv, if_pos rfl, partsG_pI, outF_end]
    have hlen := dies_len g
    have hsm := valid_small hv
    have g38 : ∀ d : Die, FnR Try.prog 38 [g.av, d.av] [.c (Row (farF (diesG g) g.links d))] := fun d => (f38 g d hv).freeze
    rw [dies_valid hv, e0] at g37
    rw [e0, e1]
    have hfar : ∀ d, d ∈ diesG g → farF (diesG g) g.links d = (diesG g).map fun x => (dst g.links d x).getD (-1) := fun d hd => by unfold farF; rw [if_pos hd]
    generalize diesG g = l at *
    refine fn_walk code22 (by simp) ?_
    (repeat' (first | refine NextAt.mk (fun hc => ?_) (fun pre n v post hc hkey => ?_) | refine Sni.mk (fun hc => ?_) ?_ | refine Both.mk ?_ ?_ | refine AW_seq ?_ | refine AW_block ?_ | ((first | refine AW_reg ?_ | refine AW_cond ?_ | refine AW_skip ?_ | refine AW_exit ?_ | refine AW_ret ?_ | refine AW_regD (by kernel_rfl) ?_ | refine AW_regX (by kernel_rfl) ?_ | refine CallAtG.t (Eq.refl true) ?_ | refine CallAtG.f (Eq.refl false) ?_ | refine CallAt.mk _ (g37 ..) (by first | (intro h; cases h; done) | (intro _; repeat' (first | exact List.forall_mem_nil _ | trivial | refine List.forall_mem_cons.2 ⟨?_, ?_⟩)) | (intro _; simp [RV.flatP, CD.flatP, maxLen, List.length_map]; done)) ?_ | refine CallAtG.mk _ (fun _ => g37 ..) ?_ | refine CallDS.mk _ (by simp [RV.data]) (fun _ => g37 ..) (by first | (intro h; cases h; done) | (intro _; repeat' (first | exact List.forall_mem_nil _ | trivial | refine List.forall_mem_cons.2 ⟨?_, ?_⟩)) | (intro _; simp [RV.flatP, CD.flatP, maxLen, List.length_map]; done)) ?_); try simp (disch := omega) only [go_sem, seval, reduceCtorEq, ↓reduceIte, beq_dec, Int.toNat_natCast, IntKind.signed, IntKind.bits, maxLen, List.length_map]) | refine And.intro (fun hc => (?_ : AW _ _ _ _)) (fun hc => (?_ : AW _ _ _ _)) | simp (disch := omega) only [go_sem, seval, reduceCtorEq, ↓reduceIte, beq_dec, Int.toNat_natCast, IntKind.signed, IntKind.bits, maxLen, List.length_map] | (refine And.intro ?_ ?_; focus (first | (intros; omega) | (intros; simp_all; done))) | refine And.intro (?_ : CallAt _ _ _ _ _ _ _ _) ?_ | refine And.intro (?_ : CallAt _ _ _ _ _ _ _ _ ∧ _) ?_ | refine And.intro (?_ : AW _ _ _ _) ?_ | fail))
    refine AW_loopK [1, 4, 6] [7, 23, 24, 25, 26, 27, 28, 29, 30, 31] (fun i : Nat => i ≤ l.length) (fun i => [(6, .own 22), (7, .I i)]) (fun i => [(22, .arr 3 1 (iRow (List.replicate i (-1) ++ List.replicate (l.length - i) 0)))]) (fun i => l.length - i) 0 (by omega) ?_ ?_
    · simp (disch := omega) only [go_sem, seval, reduceCtorEq, ↓reduceIte, beq_dec, Int.toNat_natCast, IntKind.signed, IntKind.bits, Int.natCast_zero, List.replicate_zero, List.nil_append, Nat.sub_zero, List.map_replicate]
    · intro i hi
      have hil2 : (List.replicate i (-1 : Int) ++ List.replicate (l.length - i) 0).length = l.length := by simp; omega
      (repeat' (first | refine NextAt.mk (fun hc => ?_) (fun pre n v post hc hkey => ?_) | refine Sni.mk (fun hc => ?_) ?_ | refine Both.mk ?_ ?_ | refine AW_seq ?_ | refine AW_block ?_ | ((first | refine AW_reg ?_ | refine AW_cond ?_ | refine AW_skip ?_ | refine AW_exit ?_ | refine AW_ret ?_ | refine AW_regD (by kernel_rfl) ?_ | refine AW_regX (by kernel_rfl) ?_ | refine CallAtG.t (Eq.refl true) ?_ | refine CallAtG.f (Eq.refl false) ?_); try simp (disch := omega) only [go_sem, seval, reduceCtorEq, ↓reduceIte, beq_dec, Int.toNat_natCast, IntKind.signed, IntKind.bits, List.length_map, hil2, getD_map (fun x : Int => [CD.I x]), List.set_cons_zero, iset, Int.toNat_natCast]) | refine And.intro (fun hc => (?_ : AW _ _ _ _)) (fun hc => (?_ : AW _ _ _ _)) | simp (disch := omega) only [go_sem, seval, reduceCtorEq, ↓reduceIte, beq_dec, Int.toNat_natCast, IntKind.signed, IntKind.bits, List.length_map, hil2, getD_map (fun x : Int => [CD.I x]), List.set_cons_zero, iset, Int.toNat_natCast] | (refine And.intro ?_ ?_; focus (first | (intros; omega) | (intros; simp_all; done))) | refine And.intro (?_ : CallAt _ _ _ _ _ _ _ _) ?_ | refine And.intro (?_ : CallAt _ _ _ _ _ _ _ _ ∧ _) ?_ | refine And.intro (?_ : AW _ _ _ _) ?_ | fail))
      · refine .mk (i + 1) (by omega) (by omega) ?_
        rw [rep_set _ _ (by omega)]
        simp (disch := omega) only [go_sem, seval, reduceCtorEq, ↓reduceIte, beq_dec, Int.toNat_natCast, IntKind.signed, IntKind.bits, Int.natCast_add, Int.natCast_one]
      · have hil : i = l.length := by omega
        have h0 : (List.replicate i (-1 : Int) ++ List.replicate (l.length - i) 0) = outF l (pI g.links l 0).f := by
          rw [hil]; simp [outF, pI, pS]
          exact (List.map_const' ..).symm
        rw [h0]
        refine AW_loopK [1, 4, 6] [8, 9, 10, 11, 32, 33, 34, 35, 36, 37, 38, 39, 40, 41, 42, 43, 44, 45, 46, 47, 48, 49, 50, 51, 52, 53, 54, 55, 56, 57, 58, 59, 60, 61, 62, 63, 64, 65] (fun i : Nat => i ≤ l.length) (fun i => [(8, .I (pI g.links l i).p), (9, .I i)]) (fun i => [(22, .arr 3 1 (iRow (outF l (pI g.links l i).f)))]) (fun i => l.length - i) 0 (by omega) ?_ ?_
        · simp (disch := omega) only [go_sem, seval, reduceCtorEq, ↓reduceIte, beq_dec, Int.toNat_natCast, IntKind.signed, IntKind.bits, Int.natCast_zero, pI, pS, List.take_zero, List.foldl_nil]
        · intro m hm
          have hol := outF_len l (pI g.links l m).f
          rcases Nat.lt_or_ge m l.length with hml | hml
          · have hsuc := pI_succ g.links l m hml
            have hno := nth_outF l (pI g.links l m).f m hml
            obtain ⟨_, hp0, hpm, hfv⟩ := pI_len g.links l m hm
            generalize pI g.links l m = q at *
            unfold pstep at hsuc
            cases hf : q.f (nth l m) with
            | some v =>
              have hvb := hfv _ _ hf
              rw [hf] at hno hsuc
              simp only [Option.getD_some] at hno hsuc
              (repeat' (first | refine NextAt.mk (fun hc => ?_) (fun pre n v post hc hkey => ?_) | refine Sni.mk (fun hc => ?_) ?_ | refine Both.mk ?_ ?_ | refine AW_seq ?_ | refine AW_block ?_ | ((first | refine AW_reg ?_ | refine AW_cond ?_ | refine AW_skip ?_ | refine AW_exit ?_ | refine AW_ret ?_ | refine AW_regD (by kernel_rfl) ?_ | refine AW_regX (by kernel_rfl) ?_ | refine CallAtG.t (Eq.refl true) ?_ | refine CallAtG.f (Eq.refl false) ?_ | refine CallAt.mk _ (g38 ..) (by first | (intro h; cases h; done) | (intro _; repeat' (first | exact List.forall_mem_nil _ | trivial | refine List.forall_mem_cons.2 ⟨?_, ?_⟩)) | (intro _; simp [RV.flatP, CD.flatP, List.length_map, hol, hno, getD_map (fun x : Int => [CD.I x]), getD_map Die.cd, Die.cd, Int.toNat_natCast]; done)) ?_ | refine CallAtG.mk _ (fun _ => g38 ..) ?_ | refine CallDS.mk _ (by simp [RV.data]) (fun _ => g38 ..) (by first | (intro h; cases h; done) | (intro _; repeat' (first | exact List.forall_mem_nil _ | trivial | refine List.forall_mem_cons.2 ⟨?_, ?_⟩)) | (intro _; simp [RV.flatP, CD.flatP, List.length_map, hol, hno, getD_map (fun x : Int => [CD.I x]), getD_map Die.cd, Die.cd, Int.toNat_natCast]; done)) ?_); try simp (disch := omega) only [go_sem, seval, reduceCtorEq, ↓reduceIte, beq_dec, Int.toNat_natCast, IntKind.signed, IntKind.bits, List.length_map, hol, hno, getD_map (fun x : Int => [CD.I x]), getD_map Die.cd, Die.cd, Int.toNat_natCast]) | refine And.intro (fun hc => (?_ : AW _ _ _ _)) (fun hc => (?_ : AW _ _ _ _)) | simp (disch := omega) only [go_sem, seval, reduceCtorEq, ↓reduceIte, beq_dec, Int.toNat_natCast, IntKind.signed, IntKind.bits, List.length_map, hol, hno, getD_map (fun x : Int => [CD.I x]), getD_map Die.cd, Die.cd, Int.toNat_natCast] | (refine And.intro ?_ ?_; focus (first | (intros; omega) | (intros; simp_all; done))) | refine And.intro (?_ : CallAt _ _ _ _ _ _ _ _) ?_ | refine And.intro (?_ : CallAt _ _ _ _ _ _ _ _ ∧ _) ?_ | refine And.intro (?_ : AW _ _ _ _) ?_ | fail))
              · refine .mk (m + 1) (by omega) (by omega) ?_
                simp only [hsuc]
                simp (disch := omega) only [go_sem, seval, reduceCtorEq, ↓reduceIte, beq_dec, Int.toNat_natCast, IntKind.signed, IntKind.bits, Int.natCast_add, Int.natCast_one]
              · exfalso; omega
              · omega
            | none =>
              rw [hf] at hno hsuc
              simp only [Option.getD_none] at hno hsuc
              have hF := hfar (nth l m) (nth_mem' l m hml)
              have g38 := g38 (nth l m)
              have hFl : (farF l g.links (nth l m)).length = l.length := by rw [hF]; simp
              have hFn : ∀ k, k < l.length → nth (farF l g.links (nth l m)) k = (dst g.links (nth l m) (nth l k)).getD (-1) := fun k hk => by
                rw [hF, nth_eq _ k (by simpa using hk), nth_eq l k hk]; simp
              generalize farF l g.links (nth l m) = F at *
              (repeat' (first | refine NextAt.mk (fun hc => ?_) (fun pre n v post hc hkey => ?_) | refine Sni.mk (fun hc => ?_) ?_ | refine Both.mk ?_ ?_ | refine AW_seq ?_ | refine AW_block ?_ | ((first | refine AW_reg ?_ | refine AW_cond ?_ | refine AW_skip ?_ | refine AW_exit ?_ | refine AW_ret ?_ | refine AW_regD (by kernel_rfl) ?_ | refine AW_regX (by kernel_rfl) ?_ | refine CallAtG.t (Eq.refl true) ?_ | refine CallAtG.f (Eq.refl false) ?_ | refine CallAt.mk _ (g38 ..) (by first | (intro h; cases h; done) | (intro _; repeat' (first | exact List.forall_mem_nil _ | trivial | refine List.forall_mem_cons.2 ⟨?_, ?_⟩)) | (intro _; simp [RV.flatP, CD.flatP, List.length_map, hol, hno, getD_map (fun x : Int => [CD.I x]), getD_map Die.cd, Die.cd, Int.toNat_natCast]; done)) ?_ | refine CallAtG.mk _ (fun _ => g38 ..) ?_ | refine CallDS.mk _ (by simp [RV.data]) (fun _ => g38 ..) (by first | (intro h; cases h; done) | (intro _; repeat' (first | exact List.forall_mem_nil _ | trivial | refine List.forall_mem_cons.2 ⟨?_, ?_⟩)) | (intro _; simp [RV.flatP, CD.flatP, List.length_map, hol, hno, getD_map (fun x : Int => [CD.I x]), getD_map Die.cd, Die.cd, Int.toNat_natCast]; done)) ?_); try simp (disch := omega) only [go_sem, seval, reduceCtorEq, ↓reduceIte, beq_dec, Int.toNat_natCast, IntKind.signed, IntKind.bits, List.length_map, hol, hno, getD_map (fun x : Int => [CD.I x]), getD_map Die.cd, Die.cd, Int.toNat_natCast]) | refine And.intro (fun hc => (?_ : AW _ _ _ _)) (fun hc => (?_ : AW _ _ _ _)) | simp (disch := omega) only [go_sem, seval, reduceCtorEq, ↓reduceIte, beq_dec, Int.toNat_natCast, IntKind.signed, IntKind.bits, List.length_map, hol, hno, getD_map (fun x : Int => [CD.I x]), getD_map Die.cd, Die.cd, Int.toNat_natCast] | (refine And.intro ?_ ?_; focus (first | (intros; omega) | (intros; simp_all; done))) | refine And.intro (?_ : CallAt _ _ _ _ _ _ _ _) ?_ | refine And.intro (?_ : CallAt _ _ _ _ _ _ _ _ ∧ _) ?_ | refine And.intro (?_ : AW _ _ _ _) ?_ | fail))
              · refine AW_loopK [1, 4, 6, 8, 9, 10] [11, 49, 50, 51, 52, 53, 54, 55, 56, 57, 58, 59, 60, 61, 62, 63] (fun k : Nat => k ≤ l.length) (fun k => [(11, .I k)]) (fun k => [(22, .arr 3 1 (iRow (mixF l (numS g.links q.p q.f (nth l m)) q.f k)))]) (fun k => l.length - k) 0 (by omega) ?_ ?_
                · simp (disch := omega) only [go_sem, seval, reduceCtorEq, ↓reduceIte, beq_dec, Int.toNat_natCast, IntKind.signed, IntKind.bits, Int.natCast_zero, mixF_zero]
                · intro k hk
                  have hml2 := mixF_len l (numS g.links q.p q.f (nth l m)) q.f k
                  rcases Nat.lt_or_ge k l.length with hkl | hkl
                  · have hFk := hFn k hkl
                    have hset := mixF_set l (numS g.links q.p q.f (nth l m)) q.f k hkl
                    have hsame := mixF_same l (numS g.links q.p q.f (nth l m)) q.f k hkl
                    cases hd : dst g.links (nth l m) (nth l k) with
                    | some n =>
                      have hn0 := (dst_some.1 hd).1
                      have hnum : numS g.links q.p q.f (nth l m) (nth l k) = some q.p := by unfold numS; rw [hd]; rfl
                      rw [hd, Option.getD_some] at hFk
                      rw [hnum, Option.getD_some] at hset
                      (repeat' (first | refine NextAt.mk (fun hc => ?_) (fun pre n v post hc hkey => ?_) | refine Sni.mk (fun hc => ?_) ?_ | refine Both.mk ?_ ?_ | refine AW_seq ?_ | refine AW_block ?_ | ((first | refine AW_reg ?_ | refine AW_cond ?_ | refine AW_skip ?_ | refine AW_exit ?_ | refine AW_ret ?_ | refine AW_regD (by kernel_rfl) ?_ | refine AW_regX (by kernel_rfl) ?_ | refine CallAtG.t (Eq.refl true) ?_ | refine CallAtG.f (Eq.refl false) ?_); try simp (disch := omega) only [go_sem, seval, reduceCtorEq, ↓reduceIte, beq_dec, Int.toNat_natCast, IntKind.signed, IntKind.bits, List.length_map, hol, hFk, hFl, hml2, iset, List.set_cons_zero, getD_map (fun x : Int => [CD.I x]), Int.toNat_natCast]) | refine And.intro (fun hc => (?_ : AW _ _ _ _)) (fun hc => (?_ : AW _ _ _ _)) | simp (disch := omega) only [go_sem, seval, reduceCtorEq, ↓reduceIte, beq_dec, Int.toNat_natCast, IntKind.signed, IntKind.bits, List.length_map, hol, hFk, hFl, hml2, iset, List.set_cons_zero, getD_map (fun x : Int => [CD.I x]), Int.toNat_natCast] | (refine And.intro ?_ ?_; focus (first | (intros; omega) | (intros; simp_all; done))) | refine And.intro (?_ : CallAt _ _ _ _ _ _ _ _) ?_ | refine And.intro (?_ : CallAt _ _ _ _ _ _ _ _ ∧ _) ?_ | refine And.intro (?_ : AW _ _ _ _) ?_ | fail))
                      · refine .mk (k + 1) (by omega) (by omega) ?_
                        rw [hset]
                        simp (disch := omega) only [go_sem, seval, reduceCtorEq, ↓reduceIte, beq_dec, Int.toNat_natCast, IntKind.signed, IntKind.bits, Int.natCast_add, Int.natCast_one]
                      · exfalso; omega
                      · exfalso; omega
                    | none =>
                      have hnum : numS g.links q.p q.f (nth l m) (nth l k) = q.f (nth l k) := by unfold numS; rw [hd]; rfl
                      rw [hd, Option.getD_none] at hFk
                      have hsame := hsame (by rw [hnum])
                      (repeat' (first | refine NextAt.mk (fun hc => ?_) (fun pre n v post hc hkey => ?_) | refine Sni.mk (fun hc => ?_) ?_ | refine Both.mk ?_ ?_ | refine AW_seq ?_ | refine AW_block ?_ | ((first | refine AW_reg ?_ | refine AW_cond ?_ | refine AW_skip ?_ | refine AW_exit ?_ | refine AW_ret ?_ | refine AW_regD (by kernel_rfl) ?_ | refine AW_regX (by kernel_rfl) ?_ | refine CallAtG.t (Eq.refl true) ?_ | refine CallAtG.f (Eq.refl false) ?_); try simp (disch := omega) only [go_sem, seval, reduceCtorEq, ↓reduceIte, beq_dec, Int.toNat_natCast, IntKind.signed, IntKind.bits, List.length_map, hol, hFk, hFl, hml2, iset, List.set_cons_zero, getD_map (fun x : Int => [CD.I x]), Int.toNat_natCast]) | refine And.intro (fun hc => (?_ : AW _ _ _ _)) (fun hc => (?_ : AW _ _ _ _)) | simp (disch := omega) only [go_sem, seval, reduceCtorEq, ↓reduceIte, beq_dec, Int.toNat_natCast, IntKind.signed, IntKind.bits, List.length_map, hol, hFk, hFl, hml2, iset, List.set_cons_zero, getD_map (fun x : Int => [CD.I x]), Int.toNat_natCast] | (refine And.intro ?_ ?_; focus (first | (intros; omega) | (intros; simp_all; done))) | refine And.intro (?_ : CallAt _ _ _ _ _ _ _ _) ?_ | refine And.intro (?_ : CallAt _ _ _ _ _ _ _ _ ∧ _) ?_ | refine And.intro (?_ : AW _ _ _ _) ?_ | fail))
                      · refine .mk (k + 1) (by omega) (by omega) ?_
                        rw [hsame]
                        simp (disch := omega) only [go_sem, seval, reduceCtorEq, ↓reduceIte, beq_dec, Int.toNat_natCast, IntKind.signed, IntKind.bits, Int.natCast_add, Int.natCast_one]
                      · exfalso; omega
                  · have hke : k = l.length := by omega
                    subst hke
                    (repeat' (first | refine NextAt.mk (fun hc => ?_) (fun pre n v post hc hkey => ?_) | refine Sni.mk (fun hc => ?_) ?_ | refine Both.mk ?_ ?_ | refine AW_seq ?_ | refine AW_block ?_ | ((first | refine AW_reg ?_ | refine AW_cond ?_ | refine AW_skip ?_ | refine AW_exit ?_ | refine AW_ret ?_ | refine AW_regD (by kernel_rfl) ?_ | refine AW_regX (by kernel_rfl) ?_ | refine CallAtG.t (Eq.refl true) ?_ | refine CallAtG.f (Eq.refl false) ?_); try simp (disch := omega) only [go_sem, seval, reduceCtorEq, ↓reduceIte, beq_dec, Int.toNat_natCast, IntKind.signed, IntKind.bits, List.length_map, hol, hFl, mixF_end]) | refine And.intro (fun hc => (?_ : AW _ _ _ _)) (fun hc => (?_ : AW _ _ _ _)) | simp (disch := omega) only [go_sem, seval, reduceCtorEq, ↓reduceIte, beq_dec, Int.toNat_natCast, IntKind.signed, IntKind.bits, List.length_map, hol, hFl, mixF_end] | (refine And.intro ?_ ?_; focus (first | (intros; omega) | (intros; simp_all; done))) | refine And.intro (?_ : CallAt _ _ _ _ _ _ _ _) ?_ | refine And.intro (?_ : CallAt _ _ _ _ _ _ _ _ ∧ _) ?_ | refine And.intro (?_ : AW _ _ _ _) ?_ | fail))
                    · exfalso; omega
                    · refine .mk (m + 1) (by omega) (by omega) ?_
                      simp only [hsuc]
                      simp (disch := omega) only [go_sem, seval, reduceCtorEq, ↓reduceIte, beq_dec, Int.toNat_natCast, IntKind.signed, IntKind.bits, Int.natCast_add, Int.natCast_one]
              · omega
          · have hie : m = l.length := by omega
            subst hie
            (repeat' (first | refine NextAt.mk (fun hc => ?_) (fun pre n v post hc hkey => ?_) | refine Sni.mk (fun hc => ?_) ?_ | refine Both.mk ?_ ?_ | refine AW_seq ?_ | refine AW_block ?_ | ((first | refine AW_reg ?_ | refine AW_cond ?_ | refine AW_skip ?_ | refine AW_exit ?_ | refine AW_ret ?_ | refine AW_regD (by kernel_rfl) ?_ | refine AW_regX (by kernel_rfl) ?_ | refine CallAtG.t (Eq.refl true) ?_ | refine CallAtG.f (Eq.refl false) ?_); try simp (disch := omega) only [go_sem, seval, reduceCtorEq, ↓reduceIte, beq_dec, Int.toNat_natCast, IntKind.signed, IntKind.bits, List.length_map, hol]) | refine And.intro (fun hc => (?_ : AW _ _ _ _)) (fun hc => (?_ : AW _ _ _ _)) | simp (disch := omega) only [go_sem, seval, reduceCtorEq, ↓reduceIte, beq_dec, Int.toNat_natCast, IntKind.signed, IntKind.bits, List.length_map, hol] | (refine And.intro ?_ ?_; focus (first | (intros; omega) | (intros; simp_all; done))) | refine And.intro (?_ : CallAt _ _ _ _ _ _ _ _) ?_ | refine And.intro (?_ : CallAt _ _ _ _ _ _ _ _ ∧ _) ?_ | refine And.intro (?_ : AW _ _ _ _) ?_ | fail))
            · omega
end Go.Proofs.Ytlomngideedobaa

-- P p_14.txt
open Go Go.AL Go.RowKit
namespace Go.Proofs.Ytlomngideedobaa
set_option maxRecDepth 20000
set_option maxHeartbeats 4000000 in
theorem f43 (g : Gr) (hv : validG g = true) : FnR Try.prog 43 [g.av] [.c (.I (chG g).length)] := by
  have g22 := f22 g
  have e0 : errV g = 0 := by unfold errV; rw [hv]; rfl
  have e2 : partsE g = (pI g.links (diesG g) (diesG g).length).o := by unfold partsE; rw [hv, if_pos rfl, partsG_pI]
  have hlen := dies_len g
  have hsm := valid_small hv
  have hol := (pI_len g.links (diesG g) (diesG g).length (Nat.le_refl _)).1
  have hch : ((chG g).length : Int) = (pI g.links (diesG g) (diesG g).length).p := by unfold chG; rw [partsG_pI]; exact chS_p g.links (diesG g) _ (Nat.le_refl _)
  rw [e0, e2] at g22
  rw [hch]
  have hst := fun i hi => pI_step g.links (diesG g) i hi
  have hpl := fun i hi => (pI_len g.links (diesG g) i hi).2
  generalize diesG g = l at *
  generalize (pI g.links l l.length).o = ps at *
  refine fn_walk code43 (by simp) ?_
  (repeat' (first | refine NextAt.mk (fun hc => ?_) (fun pre n v post hc hkey => ?_) | refine Sni.mk (fun hc => ?_) ?_ | refine Both.mk ?_ ?_ | refine AW_seq ?_ | refine AW_block ?_ | ((first | refine AW_reg ?_ | refine AW_cond ?_ | refine AW_skip ?_ | refine AW_exit ?_ | refine AW_ret ?_ | refine AW_regD (by kernel_rfl) ?_ | refine AW_regX (by kernel_rfl) ?_ | refine CallAtG.t (Eq.refl true) ?_ | refine CallAtG.f (Eq.refl false) ?_ | refine CallAt.mk _ (g22 ..) (by first | (intro h; cases h; done) | (intro _; repeat' (first | exact List.forall_mem_nil _ | trivial | refine List.forall_mem_cons.2 ⟨?_, ?_⟩)) | (intro _; simp [RV.flatP, CD.flatP, List.length_map]; done)) ?_ | refine CallAtG.mk _ (fun _ => g22 ..) ?_ | refine CallDS.mk _ (by simp [RV.data]) (fun _ => g22 ..) (by first | (intro h; cases h; done) | (intro _; repeat' (first | exact List.forall_mem_nil _ | trivial | refine List.forall_mem_cons.2 ⟨?_, ?_⟩)) | (intro _; simp [RV.flatP, CD.flatP, List.length_map]; done)) ?_); try simp (disch := omega) only [go_sem, seval, reduceCtorEq, ↓reduceIte, beq_dec, Int.toNat_natCast, IntKind.signed, IntKind.bits, List.length_map]) | refine And.intro (fun hc => (?_ : AW _ _ _ _)) (fun hc => (?_ : AW _ _ _ _)) | simp (disch := omega) only [go_sem, seval, reduceCtorEq, ↓reduceIte, beq_dec, Int.toNat_natCast, IntKind.signed, IntKind.bits, List.length_map] | (refine And.intro ?_ ?_; focus (first | (intros; omega) | (intros; simp_all; done))) | refine And.intro (?_ : CallAt _ _ _ _ _ _ _ _) ?_ | refine And.intro (?_ : CallAt _ _ _ _ _ _ _ _ ∧ _) ?_ | refine And.intro (?_ : AW _ _ _ _) ?_ | fail))
  refine AW_loopK [3] [5, 6, 12, 13, 14, 15, 16, 17, 18, 19, 20, 21, 22, 23, 24] (fun i : Nat => i ≤ l.length) (fun i => [(5, .I (pI g.links l i).p), (6, .I i)]) (fun _ => []) (fun i => l.length - i) 0 (by omega) ?_ ?_
  · simp (disch := omega) only [go_sem, seval, reduceCtorEq, ↓reduceIte, beq_dec, Int.toNat_natCast, IntKind.signed, IntKind.bits, Int.natCast_zero, pI, pS, List.take_zero, List.foldl_nil]
  · intro i hi
    obtain ⟨b1, b2, _⟩ := hpl i hi
    rcases Nat.lt_or_ge i l.length with hil | hil
    · obtain ⟨h1, h2, h3⟩ := hst i hil
      have hmx : max (pI g.links l i).p (nth ps i + 1) = (pI g.links l (i + 1)).p := by
        rw [h3]; split <;> omega
      (repeat' (first | refine NextAt.mk (fun hc => ?_) (fun pre n v post hc hkey => ?_) | refine Sni.mk (fun hc => ?_) ?_ | refine Both.mk ?_ ?_ | refine AW_seq ?_ | refine AW_block ?_ | ((first | refine AW_reg ?_ | refine AW_cond ?_ | refine AW_skip ?_ | refine AW_exit ?_ | refine AW_ret ?_ | refine AW_regD (by kernel_rfl) ?_ | refine AW_regX (by kernel_rfl) ?_ | refine CallAtG.t (Eq.refl true) ?_ | refine CallAtG.f (Eq.refl false) ?_); try simp (disch := omega) only [go_sem, seval, reduceCtorEq, ↓reduceIte, beq_dec, Int.toNat_natCast, IntKind.signed, IntKind.bits, List.length_map, hol, getD_map (fun x : Int => [CD.I x]), Int.toNat_natCast, inK]) | refine And.intro (fun hc => (?_ : AW _ _ _ _)) (fun hc => (?_ : AW _ _ _ _)) | simp (disch := omega) only [go_sem, seval, reduceCtorEq, ↓reduceIte, beq_dec, Int.toNat_natCast, IntKind.signed, IntKind.bits, List.length_map, hol, getD_map (fun x : Int => [CD.I x]), Int.toNat_natCast, inK] | (refine And.intro ?_ ?_; focus (first | (intros; omega) | (intros; simp_all; done))) | refine And.intro (?_ : CallAt _ _ _ _ _ _ _ _) ?_ | refine And.intro (?_ : CallAt _ _ _ _ _ _ _ _ ∧ _) ?_ | refine And.intro (?_ : AW _ _ _ _) ?_ | fail))
      all_goals first | (exfalso; omega) | skip
      all_goals (
        refine .mk (i + 1) (by omega) (by omega) ?_
        rw [← hmx]
        simp (disch := omega) only [go_sem, seval, reduceCtorEq, ↓reduceIte, beq_dec, Int.toNat_natCast, IntKind.signed, IntKind.bits, Int.natCast_add, Int.natCast_one])
    · have hie : i = l.length := by omega
      subst hie
      (repeat' (first | refine NextAt.mk (fun hc => ?_) (fun pre n v post hc hkey => ?_) | refine Sni.mk (fun hc => ?_) ?_ | refine Both.mk ?_ ?_ | refine AW_seq ?_ | refine AW_block ?_ | ((first | refine AW_reg ?_ | refine AW_cond ?_ | refine AW_skip ?_ | refine AW_exit ?_ | refine AW_ret ?_ | refine AW_regD (by kernel_rfl) ?_ | refine AW_regX (by kernel_rfl) ?_ | refine CallAtG.t (Eq.refl true) ?_ | refine CallAtG.f (Eq.refl false) ?_); try simp (disch := omega) only [go_sem, seval, reduceCtorEq, ↓reduceIte, beq_dec, Int.toNat_natCast, IntKind.signed, IntKind.bits, List.length_map, hol]) | refine And.intro (fun hc => (?_ : AW _ _ _ _)) (fun hc => (?_ : AW _ _ _ _)) | simp (disch := omega) only [go_sem, seval, reduceCtorEq, ↓reduceIte, beq_dec, Int.toNat_natCast, IntKind.signed, IntKind.bits, List.length_map, hol] | (refine And.intro ?_ ?_; focus (first | (intros; omega) | (intros; simp_all; done))) | refine And.intro (?_ : CallAt _ _ _ _ _ _ _ _) ?_ | refine And.intro (?_ : CallAt _ _ _ _ _ _ _ _ ∧ _) ?_ | refine And.intro (?_ : AW _ _ _ _) ?_ | fail))
      all_goals (exfalso; omega)
theorem f24v (g : Gr) (hv : validG g = true) : FnR Try.prog 24 [g.av] [.c (.I ((g.links.length : Int) - (diesG g).length + (chG g).length)), .c (.I 0)] := by
  have g37 := f37 g
  have g43 := f43 g hv
  have e0 : errV g = 0 := by unfold errV; rw [hv]; rfl
  have hlen := dies_len g
  have hsm := valid_small hv
  rw [dies_valid hv, e0] at g37
  have hc : (chG g).length ≤ 64 := by have := chS_len (partsG g) (diesG g) (diesG g).length; unfold chG; omega
  refine fn_walk code24 (by simp) ?_
  (repeat' (first | refine NextAt.mk (fun hc => ?_) (fun pre n v post hc hkey => ?_) | refine Sni.mk (fun hc => ?_) ?_ | refine Both.mk ?_ ?_ | refine AW_seq ?_ | refine AW_block ?_ | ((first | refine AW_reg ?_ | refine AW_cond ?_ | refine AW_skip ?_ | refine AW_exit ?_ | refine AW_ret ?_ | refine AW_regD (by kernel_rfl) ?_ | refine AW_regX (by kernel_rfl) ?_ | refine CallAtG.t (Eq.refl true) ?_ | refine CallAtG.f (Eq.refl false) ?_ | refine CallAt.mk _ (g37 ..) (by first | (intro h; cases h; done) | (intro _; repeat' (first | exact List.forall_mem_nil _ | trivial | refine List.forall_mem_cons.2 ⟨?_, ?_⟩)) | (intro _; simp [RV.flatP, CD.flatP, List.length_map, inK]; done)) ?_ | refine CallAtG.mk _ (fun _ => g37 ..) ?_ | refine CallDS.mk _ (by simp [RV.data]) (fun _ => g37 ..) (by first | (intro h; cases h; done) | (intro _; repeat' (first | exact List.forall_mem_nil _ | trivial | refine List.forall_mem_cons.2 ⟨?_, ?_⟩)) | (intro _; simp [RV.flatP, CD.flatP, List.length_map, inK]; done)) ?_ | refine CallAt.mk _ (g43 ..) (by first | (intro h; cases h; done) | (intro _; repeat' (first | exact List.forall_mem_nil _ | trivial | refine List.forall_mem_cons.2 ⟨?_, ?_⟩)) | (intro _; simp [RV.flatP, CD.flatP, List.length_map, inK]; done)) ?_ | refine CallAtG.mk _ (fun _ => g43 ..) ?_ | refine CallDS.mk _ (by simp [RV.data]) (fun _ => g43 ..) (by first | (intro h; cases h; done) | (intro _; repeat' (first | exact List.forall_mem_nil _ | trivial | refine List.forall_mem_cons.2 ⟨?_, ?_⟩)) | (intro _; simp [RV.flatP, CD.flatP, List.length_map, inK]; done)) ?_); try simp (disch := omega) only [go_sem, seval, reduceCtorEq, ↓reduceIte, beq_dec, Int.toNat_natCast, IntKind.signed, IntKind.bits, List.length_map, inK]) | refine And.intro (fun hc => (?_ : AW _ _ _ _)) (fun hc => (?_ : AW _ _ _ _)) | simp (disch := omega) only [go_sem, seval, reduceCtorEq, ↓reduceIte, beq_dec, Int.toNat_natCast, IntKind.signed, IntKind.bits, List.length_map, inK] | (refine And.intro ?_ ?_; focus (first | (intros; omega) | (intros; simp_all; done))) | refine And.intro (?_ : CallAt _ _ _ _ _ _ _ _) ?_ | refine And.intro (?_ : CallAt _ _ _ _ _ _ _ _ ∧ _) ?_ | refine And.intro (?_ : AW _ _ _ _) ?_ | fail))
theorem f24e (g : Gr) (hv : validG g = false) : FnR Try.prog 24 [g.av] [.c (.I 0), .c (.I 1)] := by
  have g37 := f37 g
  have e0 : errV g = 1 := by unfold errV; rw [hv]; rfl
  rw [e0] at g37
  refine fn_walk code24 (by simp) ?_
  (repeat' (first | refine NextAt.mk (fun hc => ?_) (fun pre n v post hc hkey => ?_) | refine Sni.mk (fun hc => ?_) ?_ | refine Both.mk ?_ ?_ | refine AW_seq ?_ | refine AW_block ?_ | ((first | refine AW_reg ?_ | refine AW_cond ?_ | refine AW_skip ?_ | refine AW_exit ?_ | refine AW_ret ?_ | refine AW_regD (by kernel_rfl) ?_ | refine AW_regX (by kernel_rfl) ?_ | refine CallAtG.t (Eq.refl true) ?_ | refine CallAtG.f (Eq.refl false) ?_ | refine CallAt.mk _ (g37 ..) (by first | (intro h; cases h; done) | (intro _; repeat' (first | exact List.forall_mem_nil _ | trivial | refine List.forall_mem_cons.2 ⟨?_, ?_⟩)) | (intro _; simp [RV.flatP, CD.flatP]; done)) ?_ | refine CallAtG.mk _ (fun _ => g37 ..) ?_ | refine CallDS.mk _ (by simp [RV.data]) (fun _ => g37 ..) (by first | (intro h; cases h; done) | (intro _; repeat' (first | exact List.forall_mem_nil _ | trivial | refine List.forall_mem_cons.2 ⟨?_, ?_⟩)) | (intro _; simp [RV.flatP, CD.flatP]; done)) ?_); try simp (disch := omega) only [go_sem, seval, reduceCtorEq, ↓reduceIte, beq_dec, Int.toNat_natCast, IntKind.signed, IntKind.bits]) | refine And.intro (fun hc => (?_ : AW _ _ _ _)) (fun hc => (?_ : AW _ _ _ _)) | simp (disch := omega) only [go_sem, seval, reduceCtorEq, ↓reduceIte, beq_dec, Int.toNat_natCast, IntKind.signed, IntKind.bits] | (refine And.intro ?_ ?_; focus (first | (intros; omega) | (intros; simp_all; done))) | refine And.intro (?_ : CallAt _ _ _ _ _ _ _ _) ?_ | refine And.intro (?_ : CallAt _ _ _ _ _ _ _ _ ∧ _) ?_ | refine And.intro (?_ : AW _ _ _ _) ?_ | fail))
end Go.Proofs.Ytlomngideedobaa

-- P p_14.txt
open Go Go.AL Go.RowKit
namespace Go.Proofs.Ytlomngideedobaa
set_option maxRecDepth 20000
def rowI (ps : List Int) (l : List Die) (k : Int) : Nat → List Die
  | 0 => []
  | i + 1 => if nth ps i = k then rowI ps l k i ++ [nth l i] else rowI ps l k i
theorem rowI_len (ps : List Int) (l : List Die) (k : Int) : ∀ i, (rowI ps l k i).length ≤ i
  | 0 => Nat.le_refl _
  | i + 1 => by
    have := rowI_len ps l k i
    simp only [rowI]
    split
    · simp; omega
    · omega
theorem chT_getD (s : List (List Die)) (k : Int) (h : Nat) : (chT s k).getD h [] = s.getD h [] := by
  unfold chT
  split
  · simp only [List.getD, List.getElem?_append]
    split
    · rfl
    · rename_i hh
      rw [List.getElem?_eq_none (l := s) (by omega)]
      rcases hn : h - s.length with _ | n <;> simp
  · rfl
theorem chS_getD (ps : List Int) (l : List Die) (hk : ∀ i, i < l.length → 0 ≤ nth ps i ∧ nth ps i ≤ (chS ps l i).length) : ∀ i, i ≤ l.length → ∀ h : Nat, (chS ps l i).getD h [] = rowI ps l h i
  | 0, _, h => by simp [chS, rowI]
  | i + 1, hi, h => by
    have ih := chS_getD ps l hk i (by omega)
    obtain ⟨k0, k1⟩ := hk i (by omega)
    have hTl : (nth ps i).toNat < (chT (chS ps l i) (nth ps i)).length := by
      unfold chT
      split
      · simp; omega
      · omega
    have e1 := chT_getD (chS ps l i) (nth ps i) (nth ps i).toNat
    have e2 := chT_getD (chS ps l i) (nth ps i) h
    simp only [chS, rowI]
    generalize chT (chS ps l i) (nth ps i) = T at *
    rw [e1]
    simp only [List.getD] at e2 ⊢
    rw [List.getElem?_set]
    by_cases e : (nth ps i).toNat = h
    · rw [if_pos e, if_pos hTl, if_pos (by omega)]
      have := ih (nth ps i).toNat
      simp only [List.getD] at this
      rw [Option.getD_some, this, e]
    · rw [if_neg e, if_neg (by omega), e2]
      exact ih h
set_option maxHeartbeats 4000000 in
theorem f23v (g : Gr) (hv : validG g = true) : FnR Try.prog 23 [g.av] [.c (CL (chG g)), .c (.I 0)] := by
  have g22 := f22 g
  have g37 := f37 g
  have g43 := f43 g hv
  have e0 : errV g = 0 := by unfold errV; rw [hv]; rfl
  have e2 : partsE g = partsG g := by unfold partsE; rw [hv]; rfl
  have hlen := dies_len g
  have hsm := valid_small hv
  have hpl : (partsG g).length = (diesG g).length := by rw [partsG_pI]; exact (pI_len g.links _ _ (Nat.le_refl _)).1
  have hc : (chG g).length ≤ 64 := by have := chS_len (partsG g) (diesG g) (diesG g).length; unfold chG; omega
  have hrow : ∀ k, k < (chG g).length → nth (chG g) k = rowI (partsG g) (diesG g) k (diesG g).length := fun k hk => by
    have h1 := chS_getD (partsG g) (diesG g) (fun i hi => by
      have h1 := pI_step g.links (diesG g) i hi
      have h2 := chS_p g.links (diesG g) i (by omega)
      rw [partsG_pI, h2]
      exact ⟨h1.1, h1.2.1⟩) _ (Nat.le_refl _) k
    rw [← h1]
    unfold chG nth
    rfl
  rw [dies_valid hv, e0] at g37
  rw [e0, e2] at g22
  generalize diesG g = l at *
  generalize partsG g = ps at *
  generalize chG g = s at *
  refine fn_walk code23 (by simp) ?_
  (repeat' (first | refine NextAt.mk (fun hc => ?_) (fun pre n v post hc hkey => ?_) | refine Sni.mk (fun hc => ?_) ?_ | refine Both.mk ?_ ?_ | refine AW_seq ?_ | refine AW_block ?_ | ((first | refine AW_reg ?_ | refine AW_cond ?_ | refine AW_skip ?_ | refine AW_exit ?_ | refine AW_ret ?_ | refine AW_regD (by kernel_rfl) ?_ | refine AW_regX (by kernel_rfl) ?_ | refine CallAtG.t (Eq.refl true) ?_ | refine CallAtG.f (Eq.refl false) ?_ | refine CallAt.mk _ (g22 ..) (by first | (intro h; cases h; done) | (intro _; repeat' (first | exact List.forall_mem_nil _ | trivial | refine List.forall_mem_cons.2 ⟨?_, ?_⟩)) | (intro _; simp [RV.flatP, CD.flatP, List.length_map]; done)) ?_ | refine CallAtG.mk _ (fun _ => g22 ..) ?_ | refine CallDS.mk _ (by simp [RV.data]) (fun _ => g22 ..) (by first | (intro h; cases h; done) | (intro _; repeat' (first | exact List.forall_mem_nil _ | trivial | refine List.forall_mem_cons.2 ⟨?_, ?_⟩)) | (intro _; simp [RV.flatP, CD.flatP, List.length_map]; done)) ?_ | refine CallAt.mk _ (g37 ..) (by first | (intro h; cases h; done) | (intro _; repeat' (first | exact List.forall_mem_nil _ | trivial | refine List.forall_mem_cons.2 ⟨?_, ?_⟩)) | (intro _; simp [RV.flatP, CD.flatP, List.length_map]; done)) ?_ | refine CallAtG.mk _ (fun _ => g37 ..) ?_ | refine CallDS.mk _ (by simp [RV.data]) (fun _ => g37 ..) (by first | (intro h; cases h; done) | (intro _; repeat' (first | exact List.forall_mem_nil _ | trivial | refine List.forall_mem_cons.2 ⟨?_, ?_⟩)) | (intro _; simp [RV.flatP, CD.flatP, List.length_map]; done)) ?_); try simp (disch := omega) only [go_sem, seval, reduceCtorEq, ↓reduceIte, beq_dec, Int.toNat_natCast, IntKind.signed, IntKind.bits, List.length_map]) | refine And.intro (fun hc => (?_ : AW _ _ _ _)) (fun hc => (?_ : AW _ _ _ _)) | simp (disch := omega) only [go_sem, seval, reduceCtorEq, ↓reduceIte, beq_dec, Int.toNat_natCast, IntKind.signed, IntKind.bits, List.length_map] | (refine And.intro ?_ ?_; focus (first | (intros; omega) | (intros; simp_all; done))) | refine And.intro (?_ : CallAt _ _ _ _ _ _ _ _) ?_ | refine And.intro (?_ : CallAt _ _ _ _ _ _ _ _ ∧ _) ?_ | refine And.intro (?_ : AW _ _ _ _) ?_ | fail))
  refine AW_nil 8 900 54 1 (by rfl) ?_
  refine AW_loopK [1, 4, 6] [8, 9, 10, 11, 25, 26, 27, 28, 29, 30, 31, 32, 33, 34, 35, 36, 37, 38, 39, 40, 41, 42, 43, 44, 45, 46, 47, 48, 49, 50, 51, 52, 53] (fun k : Nat => k ≤ s.length) (fun k => [(8, .own 900), (9, .I k)]) (fun k => [(900, .arr 54 1 ((s.take k).map fun c => [DL c]))]) (fun k => s.length - k) 0 (by omega) ?_ ?_
  · simp (disch := omega) only [go_sem, seval, reduceCtorEq, ↓reduceIte, beq_dec, Int.toNat_natCast, IntKind.signed, IntKind.bits, Int.natCast_zero, List.take_zero, List.map_nil]
  · intro k hk
    rcases Nat.lt_or_ge k s.length with hkl | hkl
    · have hrk := hrow k hkl
      (repeat' (first | refine NextAt.mk (fun hc => ?_) (fun pre n v post hc hkey => ?_) | refine Sni.mk (fun hc => ?_) ?_ | refine Both.mk ?_ ?_ | refine AW_seq ?_ | refine AW_block ?_ | ((first | refine AW_reg ?_ | refine AW_cond ?_ | refine AW_skip ?_ | refine AW_exit ?_ | refine AW_ret ?_ | refine AW_regD (by kernel_rfl) ?_ | refine AW_regX (by kernel_rfl) ?_ | refine CallAtG.t (Eq.refl true) ?_ | refine CallAtG.f (Eq.refl false) ?_ | refine CallAt.mk _ (g43 ..) (by first | (intro h; cases h; done) | (intro _; repeat' (first | exact List.forall_mem_nil _ | trivial | refine List.forall_mem_cons.2 ⟨?_, ?_⟩)) | (intro _; simp [RV.flatP, CD.flatP, List.length_map]; done)) ?_ | refine CallAtG.mk _ (fun _ => g43 ..) ?_ | refine CallDS.mk _ (by simp [RV.data]) (fun _ => g43 ..) (by first | (intro h; cases h; done) | (intro _; repeat' (first | exact List.forall_mem_nil _ | trivial | refine List.forall_mem_cons.2 ⟨?_, ?_⟩)) | (intro _; simp [RV.flatP, CD.flatP, List.length_map]; done)) ?_); try simp (disch := omega) only [go_sem, seval, reduceCtorEq, ↓reduceIte, beq_dec, Int.toNat_natCast, IntKind.signed, IntKind.bits, List.length_map]) | refine And.intro (fun hc => (?_ : AW _ _ _ _)) (fun hc => (?_ : AW _ _ _ _)) | simp (disch := omega) only [go_sem, seval, reduceCtorEq, ↓reduceIte, beq_dec, Int.toNat_natCast, IntKind.signed, IntKind.bits, List.length_map] | (refine And.intro ?_ ?_; focus (first | (intros; omega) | (intros; simp_all; done))) | refine And.intro (?_ : CallAt _ _ _ _ _ _ _ _) ?_ | refine And.intro (?_ : CallAt _ _ _ _ _ _ _ _ ∧ _) ?_ | refine And.intro (?_ : AW _ _ _ _) ?_ | fail))
      · refine AW_nil 10 901 27 2 (by rfl) ?_
        refine AW_loopK [1, 4, 6, 8, 9] [10, 11, 31, 32, 33, 34, 35, 36, 37, 38, 39, 40, 41, 42, 43, 44, 45, 46, 47, 48, 49] (fun i : Nat => i ≤ l.length) (fun i => [(10, .own 901), (11, .I i)]) (fun i => [(901, .arr 27 2 ((rowI ps l k i).map Die.cd))]) (fun i => l.length - i) 0 (by omega) ?_ ?_
        · simp (disch := omega) only [go_sem, seval, reduceCtorEq, ↓reduceIte, beq_dec, Int.toNat_natCast, IntKind.signed, IntKind.bits, Int.natCast_zero, rowI, List.map_nil]
        · intro i hi
          have hrl := rowI_len ps l k i
          rcases Nat.lt_or_ge i l.length with hil | hil
          · have hsuc : rowI ps l k (i + 1) = if nth ps i = k then rowI ps l k i ++ [nth l i] else rowI ps l k i := rfl
            (repeat' (first | refine NextAt.mk (fun hc => ?_) (fun pre n v post hc hkey => ?_) | refine Sni.mk (fun hc => ?_) ?_ | refine Both.mk ?_ ?_ | refine AW_seq ?_ | refine AW_block ?_ | ((first | refine AW_reg ?_ | refine AW_cond ?_ | refine AW_skip ?_ | refine AW_exit ?_ | refine AW_ret ?_ | refine AW_regD (by kernel_rfl) ?_ | refine AW_regX (by kernel_rfl) ?_ | refine CallAtG.t (Eq.refl true) ?_ | refine CallAtG.f (Eq.refl false) ?_); try simp (disch := omega) only [go_sem, seval, reduceCtorEq, ↓reduceIte, beq_dec, Int.toNat_natCast, IntKind.signed, IntKind.bits, List.length_map, hpl, maxLen, getD_map (fun x : Int => [CD.I x]), getD_map Die.cd, Die.cd, Int.toNat_natCast]) | refine And.intro (fun hc => (?_ : AW _ _ _ _)) (fun hc => (?_ : AW _ _ _ _)) | simp (disch := omega) only [go_sem, seval, reduceCtorEq, ↓reduceIte, beq_dec, Int.toNat_natCast, IntKind.signed, IntKind.bits, List.length_map, hpl, maxLen, getD_map (fun x : Int => [CD.I x]), getD_map Die.cd, Die.cd, Int.toNat_natCast] | (refine And.intro ?_ ?_; focus (first | (intros; omega) | (intros; simp_all; done))) | refine And.intro (?_ : CallAt _ _ _ _ _ _ _ _) ?_ | refine And.intro (?_ : CallAt _ _ _ _ _ _ _ _ ∧ _) ?_ | refine And.intro (?_ : AW _ _ _ _) ?_ | fail))
            · refine .mk (i + 1) (by omega) (by omega) ?_
              have e3 : (rowI ps l k (i + 1)).map Die.cd = (rowI ps l k i).map Die.cd ++ [[CD.I (nth l i).side, CD.I (nth l i).num]] := by rw [hsuc, if_pos hc, List.map_append]; rfl
              rw [e3]
              simp (disch := omega) only [go_sem, seval, reduceCtorEq, ↓reduceIte, beq_dec, Int.toNat_natCast, IntKind.signed, IntKind.bits, Int.natCast_add, Int.natCast_one]
            · refine .mk (i + 1) (by omega) (by omega) ?_
              have e3 : rowI ps l k (i + 1) = rowI ps l k i := by rw [hsuc, if_neg hc]
              rw [e3]
              simp (disch := omega) only [go_sem, seval, reduceCtorEq, ↓reduceIte, beq_dec, Int.toNat_natCast, IntKind.signed, IntKind.bits, Int.natCast_add, Int.natCast_one]
            · exfalso; omega
          · have hie : i = l.length := by omega
            subst hie
            (repeat' (first | refine NextAt.mk (fun hc => ?_) (fun pre n v post hc hkey => ?_) | refine Sni.mk (fun hc => ?_) ?_ | refine Both.mk ?_ ?_ | refine AW_seq ?_ | refine AW_block ?_ | ((first | refine AW_reg ?_ | refine AW_cond ?_ | refine AW_skip ?_ | refine AW_exit ?_ | refine AW_ret ?_ | refine AW_regD (by kernel_rfl) ?_ | refine AW_regX (by kernel_rfl) ?_ | refine CallAtG.t (Eq.refl true) ?_ | refine CallAtG.f (Eq.refl false) ?_); try simp (disch := omega) only [go_sem, seval, reduceCtorEq, ↓reduceIte, beq_dec, Int.toNat_natCast, IntKind.signed, IntKind.bits, List.length_map, maxLen, List.length_take]) | refine And.intro (fun hc => (?_ : AW _ _ _ _)) (fun hc => (?_ : AW _ _ _ _)) | simp (disch := omega) only [go_sem, seval, reduceCtorEq, ↓reduceIte, beq_dec, Int.toNat_natCast, IntKind.signed, IntKind.bits, List.length_map, maxLen, List.length_take] | (refine And.intro ?_ ?_; focus (first | (intros; omega) | (intros; simp_all; done))) | refine And.intro (?_ : CallAt _ _ _ _ _ _ _ _) ?_ | refine And.intro (?_ : CallAt _ _ _ _ _ _ _ _ ∧ _) ?_ | refine And.intro (?_ : AW _ _ _ _) ?_ | fail))
            · exfalso; omega
            · refine .mk (k + 1) (by omega) (by omega) ?_
              have e3 : (s.take (k + 1)).map (fun c => [DL c]) = (s.take k).map (fun c => [DL c]) ++ [[CD.sl 2 ((rowI ps l k l.length).map Die.cd)]] := by
                rw [List.take_succ_eq_append_getElem hkl, List.map_append, ← nth_eq s k hkl, hrk]; rfl
              rw [e3]
              simp (disch := omega) only [go_sem, seval, reduceCtorEq, ↓reduceIte, beq_dec, Int.toNat_natCast, IntKind.signed, IntKind.bits, Int.natCast_add, Int.natCast_one]
      · exfalso; omega
    · have hke : k = s.length := by omega
      subst hke
      (repeat' (first | refine NextAt.mk (fun hc => ?_) (fun pre n v post hc hkey => ?_) | refine Sni.mk (fun hc => ?_) ?_ | refine Both.mk ?_ ?_ | refine AW_seq ?_ | refine AW_block ?_ | ((first | refine AW_reg ?_ | refine AW_cond ?_ | refine AW_skip ?_ | refine AW_exit ?_ | refine AW_ret ?_ | refine AW_regD (by kernel_rfl) ?_ | refine AW_regX (by kernel_rfl) ?_ | refine CallAtG.t (Eq.refl true) ?_ | refine CallAtG.f (Eq.refl false) ?_ | refine CallAt.mk _ (g43 ..) (by first | (intro h; cases h; done) | (intro _; repeat' (first | exact List.forall_mem_nil _ | trivial | refine List.forall_mem_cons.2 ⟨?_, ?_⟩)) | (intro _; simp [RV.flatP, CD.flatP, List.length_map, List.take_length]; done)) ?_ | refine CallAtG.mk _ (fun _ => g43 ..) ?_ | refine CallDS.mk _ (by simp [RV.data]) (fun _ => g43 ..) (by first | (intro h; cases h; done) | (intro _; repeat' (first | exact List.forall_mem_nil _ | trivial | refine List.forall_mem_cons.2 ⟨?_, ?_⟩)) | (intro _; simp [RV.flatP, CD.flatP, List.length_map, List.take_length]; done)) ?_); try simp (disch := omega) only [go_sem, seval, reduceCtorEq, ↓reduceIte, beq_dec, Int.toNat_natCast, IntKind.signed, IntKind.bits, List.length_map, List.take_length]) | refine And.intro (fun hc => (?_ : AW _ _ _ _)) (fun hc => (?_ : AW _ _ _ _)) | simp (disch := omega) only [go_sem, seval, reduceCtorEq, ↓reduceIte, beq_dec, Int.toNat_natCast, IntKind.signed, IntKind.bits, List.length_map, List.take_length] | (refine And.intro ?_ ?_; focus (first | (intros; omega) | (intros; simp_all; done))) | refine And.intro (?_ : CallAt _ _ _ _ _ _ _ _) ?_ | refine And.intro (?_ : CallAt _ _ _ _ _ _ _ _ ∧ _) ?_ | refine And.intro (?_ : AW _ _ _ _) ?_ | fail))
      · exfalso; omega
end Go.Proofs.Ytlomngideedobaa

