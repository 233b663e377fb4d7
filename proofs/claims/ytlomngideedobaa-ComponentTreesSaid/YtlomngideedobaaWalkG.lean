/-
  Lemmas for the proof: no statement of its own.
-/
import Derived.Test.YtlomngideedobaaWalkF
set_option linter.unusedVariables false
set_option linter.unusedSimpArgs false
-- P p_14.txt
open Go Go.AL Go.RowKit
namespace Go.Proofs.Ytlomngideedobaa
set_option maxRecDepth 20000
theorem pI_o (g : List Lk) (l : List Die) (i : Nat) (hi : i < l.length) : ∀ m, i < m → m ≤ l.length → nth (pI g l m).o i = nth (pI g l (i + 1)).o i
  | 0, h, _ => by omega
  | m + 1, h, hm => by
    by_cases e : i = m
    · rw [e]
    · rw [← pI_o g l i hi m (by omega) (by omega), pI_succ g l m (by omega)]
      obtain ⟨a, _⟩ := pI_len g l m (by omega)
      unfold pstep
      split <;> (simp only; rw [nth_app, if_neg (by omega)])
theorem pI_step (g : List Lk) (l : List Die) (i : Nat) (hi : i < l.length) : 0 ≤ nth (pI g l l.length).o i ∧ nth (pI g l l.length).o i ≤ (pI g l i).p ∧ (pI g l (i + 1)).p = if nth (pI g l l.length).o i = (pI g l i).p then (pI g l i).p + 1 else (pI g l i).p := by
  rw [pI_o g l i hi l.length hi (Nat.le_refl _), pI_succ g l i hi]
  obtain ⟨a, b, _, _⟩ := pI_len g l i (by omega)
  obtain ⟨_, c, _⟩ := pI_far g l i (by omega)
  unfold pstep
  split
  · rename_i v hv
    have := c _ _ hv
    simp only
    rw [nth_app, if_pos a.symm, if_neg (by omega)]
    exact ⟨by omega, by omega, rfl⟩
  · simp only
    rw [nth_app, if_pos a.symm, if_pos rfl]
    exact ⟨by omega, by omega, rfl⟩
theorem chS_p (g : List Lk) (l : List Die) : ∀ i, i ≤ l.length → ((chS (pI g l l.length).o l i).length : Int) = (pI g l i).p
  | 0, _ => by simp [chS, pI, pS]
  | i + 1, h => by
    have ih := chS_p g l i (by omega)
    obtain ⟨_, _, h3⟩ := pI_step g l i (by omega)
    rw [h3]
    simp only [chS, List.length_set, chT]
    rw [ih]
    split
    · simp [ih]
    · exact ih
theorem partsG_pI (g : Gr) : partsG g = (pI g.links (diesG g) (diesG g).length).o := by unfold partsG pI; rw [List.take_length]
def chG (g : Gr) : List (List Die) := chS (partsG g) (diesG g) (diesG g).length
theorem f20v (g : Gr) (hv : validG g = true) : FnR Try.prog 20 [g.av] [.c (CL (chG g)), .c (.I 0)] := by
  have g41 := f41 g
  have g19 := f19 g
  have e0 : errV g = 0 := by unfold errV; rw [hv]; rfl
  have e2 : partsE g = partsG g := by unfold partsE; rw [hv]; rfl
  rw [dies_valid hv, e0] at g41
  rw [e0, e2] at g19
  have hlen := dies_len g
  have hsm := valid_small hv
  have hpl : (partsG g).length = (diesG g).length := by rw [partsG_pI]; exact (pI_len g.links _ _ (Nat.le_refl _)).1
  have := f20w g (diesG g) (partsG g) g41 g19 hpl (by omega) fun i hi => by
    have h1 := pI_step g.links (diesG g) i hi
    have h2 := chS_p g.links (diesG g) i (by omega)
    rw [partsG_pI, h2]
    exact ⟨h1.1, h1.2.1⟩
  rw [rowsCD_chC] at this
  exact this
theorem f20e (g : Gr) (hv : validG g = false) : FnR Try.prog 20 [g.av] [.c .nil, .c (.I 1)] := by
  have g19 := f19 g
  have e0 : errV g = 1 := by unfold errV; rw [hv]; rfl
  have e2 : partsE g = [] := by unfold partsE; rw [hv]; rfl
  rw [e0, e2] at g19
  refine fn_walk code20 (by simp) ?_
  (repeat' (first | refine NextAt.mk (fun hc => ?_) (fun pre n v post hc hkey => ?_) | refine Sni.mk (fun hc => ?_) ?_ | refine Both.mk ?_ ?_ | refine AW_seq ?_ | refine AW_block ?_ | ((first | refine AW_reg ?_ | refine AW_cond ?_ | refine AW_skip ?_ | refine AW_exit ?_ | refine AW_ret ?_ | refine AW_regD (by kernel_rfl) ?_ | refine AW_regX (by kernel_rfl) ?_ | refine CallAtG.t (Eq.refl true) ?_ | refine CallAtG.f (Eq.refl false) ?_ | refine CallAt.mk _ (g19 ..) (by first | (intro h; cases h; done) | (intro _; repeat' (first | exact List.forall_mem_nil _ | trivial | refine List.forall_mem_cons.2 ⟨?_, ?_⟩)) | (intro _; simp [RV.flatP, CD.flatP]; done)) ?_ | refine CallAtG.mk _ (fun _ => g19 ..) ?_ | refine CallDS.mk _ (by simp [RV.data]) (fun _ => g19 ..) (by first | (intro h; cases h; done) | (intro _; repeat' (first | exact List.forall_mem_nil _ | trivial | refine List.forall_mem_cons.2 ⟨?_, ?_⟩)) | (intro _; simp [RV.flatP, CD.flatP]; done)) ?_); try simp (disch := omega) only [go_sem, seval, reduceCtorEq, ↓reduceIte, beq_dec, Int.toNat_natCast, IntKind.signed, IntKind.bits]) | refine And.intro (fun hc => (?_ : AW _ _ _ _)) (fun hc => (?_ : AW _ _ _ _)) | simp (disch := omega) only [go_sem, seval, reduceCtorEq, ↓reduceIte, beq_dec, Int.toNat_natCast, IntKind.signed, IntKind.bits] | (refine And.intro ?_ ?_; focus (first | (intros; omega) | (intros; simp_all; done))) | refine And.intro (?_ : CallAt _ _ _ _ _ _ _ _) ?_ | refine And.intro (?_ : CallAt _ _ _ _ _ _ _ _ ∧ _) ?_ | refine And.intro (?_ : AW _ _ _ _) ?_ | fail))
theorem f21v (g : Gr) (hv : validG g = true) : FnR Try.prog 21 [g.av] [.c (.I ((g.links.length : Int) - g.obv.length - g.rev.length + (chG g).length)), .c (.I 0)] := by
  have hlen := dies_len g
  have hsm := valid_small hv
  exact f21w g (chG g) (f20v g hv) hsm (by have := chS_len (partsG g) (diesG g) (diesG g).length; unfold chG; omega)
theorem f21e (g : Gr) (hv : validG g = false) : FnR Try.prog 21 [g.av] [.c (.I 0), .c (.I 1)] := by
  have g20 := f20e g hv
  refine fn_walk code21 (by simp) ?_
  (repeat' (first | refine NextAt.mk (fun hc => ?_) (fun pre n v post hc hkey => ?_) | refine Sni.mk (fun hc => ?_) ?_ | refine Both.mk ?_ ?_ | refine AW_seq ?_ | refine AW_block ?_ | ((first | refine AW_reg ?_ | refine AW_cond ?_ | refine AW_skip ?_ | refine AW_exit ?_ | refine AW_ret ?_ | refine AW_regD (by kernel_rfl) ?_ | refine AW_regX (by kernel_rfl) ?_ | refine CallAtG.t (Eq.refl true) ?_ | refine CallAtG.f (Eq.refl false) ?_ | refine CallAt.mk _ (g20 ..) (by first | (intro h; cases h; done) | (intro _; repeat' (first | exact List.forall_mem_nil _ | trivial | refine List.forall_mem_cons.2 ⟨?_, ?_⟩)) | (intro _; simp [RV.flatP, CD.flatP]; done)) ?_ | refine CallAtG.mk _ (fun _ => g20 ..) ?_ | refine CallDS.mk _ (by simp [RV.data]) (fun _ => g20 ..) (by first | (intro h; cases h; done) | (intro _; repeat' (first | exact List.forall_mem_nil _ | trivial | refine List.forall_mem_cons.2 ⟨?_, ?_⟩)) | (intro _; simp [RV.flatP, CD.flatP]; done)) ?_); try simp (disch := omega) only [go_sem, seval, reduceCtorEq, ↓reduceIte, beq_dec, Int.toNat_natCast, IntKind.signed, IntKind.bits]) | refine And.intro (fun hc => (?_ : AW _ _ _ _)) (fun hc => (?_ : AW _ _ _ _)) | simp (disch := omega) only [go_sem, seval, reduceCtorEq, ↓reduceIte, beq_dec, Int.toNat_natCast, IntKind.signed, IntKind.bits] | (refine And.intro ?_ ?_; focus (first | (intros; omega) | (intros; simp_all; done))) | refine And.intro (?_ : CallAt _ _ _ _ _ _ _ _) ?_ | refine And.intro (?_ : CallAt _ _ _ _ _ _ _ _ ∧ _) ?_ | refine And.intro (?_ : AW _ _ _ _) ?_ | fail))
end Go.Proofs.Ytlomngideedobaa

-- P p_14.txt
open Go Go.AL Go.RowKit
namespace Go.Proofs.Ytlomngideedobaa
set_option maxRecDepth 20000
end Go.Proofs.Ytlomngideedobaa

-- P p_14.txt
open Go Go.AL Go.RowKit
namespace Go.Proofs.Ytlomngideedobaa
set_option maxRecDepth 20000
end Go.Proofs.Ytlomngideedobaa

-- P p_14.txt
open Go Go.AL Go.RowKit
namespace Go.Proofs.Ytlomngideedobaa
set_option maxRecDepth 20000
end Go.Proofs.Ytlomngideedobaa

