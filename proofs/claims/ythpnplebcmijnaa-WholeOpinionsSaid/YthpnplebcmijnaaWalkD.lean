/-
  Lemmas for the proof: no statement of its own.
-/
import Derived.Test.YthpnplebcmijnaaWalkC
import Derived.Test.YthpnplebcmijnaaCutA
set_option linter.unusedVariables false
set_option linter.unusedSimpArgs false
-- P p_w.txt
open Go Go.AL Go.RowKit Go.Shelf
namespace Go.Proofs.Ythpnplebcmijnaa
set_option maxRecDepth 20000
theorem chgOk_iff (c : Chg) : chgOk c = true ↔ ((¬ c.old = c.new ∨ (c.had == c.has) = false) ∧ (c.had = true ∨ c.old = 0)) ∧ (c.has = true ∨ c.new = 0) := by
  unfold chgOk
  rw [Bool.and_eq_true, Bool.and_eq_true, decide_eq_true_eq, Bool.or_eq_true, Bool.or_eq_true, decide_eq_true_eq, decide_eq_true_eq, Ne, sd_ne]
  exact Iff.rfl
def st25 (l : List Chg) (i : Nat) : St := ⟨60, [(3, .I i), (0, .c (CL l)), (9, .I i), (8, .I l.length), (7, .c (CL l)), (4, .ptr 4 0), (5, .ptr 5 0), (6, .ptr 6 0)], [(4, .box 37 ((nth l i).cd.map .c)), (5, .box 47 ((nth l i).bef.cd.map .c)), (6, .box 47 ((nth l i).aft.cd.map .c))]⟩
theorem x25 (l : List Chg) (i : Nat) {Q : Exit → St → Prop} {p : PlanA} {σ : St} (h : regA Try.prog (cutQ (st25 l i)) p σ ∧ Q .normal (st25 l i)) (hq : MonoQ Q := by repeat first | exact MonoQ.seq | refine MonoQ.block ?_) : AW Try.prog (.regX p) Q σ := AW_cutX _ (by kernel_rfl) h hq
set_option maxHeartbeats 4000000 in
theorem f25 (l : List Chg) : FnR Try.prog 16 [.c (CL l)] [.c (.B (validC l))] := by
  refine FnR_len (pre := []) (post := []) (fnCode_callB code16) fun hl => ?_
  simp only [List.length_map, maxLen] at hl
  refine fn_walk code16 (by simp) ?_
  (repeat' (first | refine NextAt.mk (fun hc => ?_) (fun pre n v post hc hkey => ?_) | refine Sni.mk (fun hc => ?_) ?_ | refine AW_seq ?_ | refine AW_block ?_ | ((first | refine AW_reg ?_ | refine AW_cond ?_ | refine AW_skip ?_ | refine AW_exit ?_ | refine AW_ret ?_ | refine AW_regD (by kernel_rfl) ?_ | refine AW_regX (by kernel_rfl) ?_ | refine CallAtG.t (Eq.refl true) ?_ | refine CallAtG.f (Eq.refl false) ?_); try simp (disch := omega) only [go_sem, Nat.reduceLT, Nat.reduceAdd, Nat.reduceSub, Nat.reduceMul, Nat.reduceMod, Nat.reduceDiv, Nat.reduceBEq, Nat.reduceEqDiff, Nat.reduceLeDiff, reduceCtorEq, ↓reduceIte, beq_dec, Int.reduceToNat, Int.reduceLT, Int.reduceLE, Int.reduceAdd, Int.reduceSub, Int.reduceMul, Int.reduceEq, Int.reduceNeg, Int.reduceNe, Int.toNat_natCast, IntKind.signed, IntKind.bits, Int.reducePow, Nat.reducePow]) | refine And.intro (fun hc => (?_ : AW _ _ _ _)) (fun hc => (?_ : AW _ _ _ _)) | simp (disch := omega) only [go_sem, Nat.reduceLT, Nat.reduceAdd, Nat.reduceSub, Nat.reduceMul, Nat.reduceMod, Nat.reduceDiv, Nat.reduceBEq, Nat.reduceEqDiff, Nat.reduceLeDiff, reduceCtorEq, ↓reduceIte, beq_dec, Int.reduceToNat, Int.reduceLT, Int.reduceLE, Int.reduceAdd, Int.reduceSub, Int.reduceMul, Int.reduceEq, Int.reduceNeg, Int.reduceNe, Int.toNat_natCast, IntKind.signed, IntKind.bits, Int.reducePow, Nat.reducePow] | (refine And.intro ?_ ?_; focus (first | (intros; omega) | (intros; simp_all; done))) | refine And.intro (?_ : CallAt _ _ _ _ _ _ _ _) ?_ | refine And.intro (?_ : CallAt _ _ _ _ _ _ _ _ ∧ _) ?_ | fail))
  refine AW_loopK [0, 7, 8] [2, 3, 4, 5, 6, 9, 10, 11, 12, 13, 14, 15, 16, 17, 18, 19, 20, 21, 22, 23, 24, 25, 26, 27, 28, 29, 30, 31, 32, 33, 34, 35, 36, 37, 38, 39, 40, 41, 42, 43, 44, 45, 46, 47, 48, 49, 50, 51, 52, 53, 54, 55, 56] (fun i : Nat => i ≤ l.length ∧ ∀ j, j < i → chgOk (nth l j) = true ∧ (0 < j → (nth l (j - 1)).key < (nth l j).key)) (fun i => [(9, .I i)]) (fun _ => []) (fun i => l.length - i) 0 ⟨by omega, by omega⟩ ?_ ?_
  · simp (disch := omega) only [go_sem, Nat.reduceLT, Nat.reduceAdd, Nat.reduceSub, Nat.reduceMul, Nat.reduceMod, Nat.reduceDiv, Nat.reduceBEq, Nat.reduceEqDiff, Nat.reduceLeDiff, reduceCtorEq, ↓reduceIte, beq_dec, Int.reduceToNat, Int.reduceLT, Int.reduceLE, Int.reduceAdd, Int.reduceSub, Int.reduceMul, Int.reduceEq, Int.reduceNeg, Int.reduceNe, Int.toNat_natCast, IntKind.signed, IntKind.bits, Int.reducePow, Nat.reducePow, Int.natCast_zero]
  · rintro i ⟨hi, hb⟩
    have tx := @x25 l i
    (repeat' (first | (with_reducible refine tx ?_; try simp (disch := omega) only [go_sem, Nat.reduceLT, Nat.reduceAdd, Nat.reduceSub, Nat.reduceMul, Nat.reduceMod, Nat.reduceDiv, Nat.reduceBEq, Nat.reduceEqDiff, Nat.reduceLeDiff, reduceCtorEq, ↓reduceIte, beq_dec, Int.reduceToNat, Int.reduceLT, Int.reduceLE, Int.reduceAdd, Int.reduceSub, Int.reduceMul, Int.reduceEq, Int.reduceNeg, Int.reduceNe, Int.toNat_natCast, IntKind.signed, IntKind.bits, Int.reducePow, Nat.reducePow, getD_map Chg.cd, toNat_pred, st25, Chg.cd, Chg.bef, Chg.aft, Sd.cd, List.map_cons, List.map_nil]) | refine NextAt.mk (fun hc => ?_) (fun pre n v post hc hkey => ?_) | refine Sni.mk (fun hc => ?_) ?_ | refine AW_seq ?_ | refine AW_block ?_ | ((first | refine AW_reg ?_ | refine AW_cond ?_ | refine AW_skip ?_ | refine AW_exit ?_ | refine AW_ret ?_ | refine AW_regD (by kernel_rfl) ?_ | refine AW_regX (by kernel_rfl) ?_ | refine CallAtG.t (Eq.refl true) ?_ | refine CallAtG.f (Eq.refl false) ?_ | refine CallAt.mk _ (f39 ..) (by first | (intro h; cases h; done) | (intro _; repeat' (first | exact List.forall_mem_nil _ | trivial | refine List.forall_mem_cons.2 ⟨?_, ?_⟩)) | (intro _; simp [RV.flatP, CD.flatP, getD_map Chg.cd, toNat_pred, st25, Chg.cd, Chg.bef, Chg.aft, Sd.cd, List.map_cons, List.map_nil]; done)) ?_ | refine CallAtG.mk _ (fun _ => f39 ..) ?_ | refine CallDS.mk _ (by simp [RV.data]) (fun _ => f39 ..) (by first | (intro h; cases h; done) | (intro _; repeat' (first | exact List.forall_mem_nil _ | trivial | refine List.forall_mem_cons.2 ⟨?_, ?_⟩)) | (intro _; simp [RV.flatP, CD.flatP, getD_map Chg.cd, toNat_pred, st25, Chg.cd, Chg.bef, Chg.aft, Sd.cd, List.map_cons, List.map_nil]; done)) ?_ | refine CallAt.mk _ (f40 ..) (by first | (intro h; cases h; done) | (intro _; repeat' (first | exact List.forall_mem_nil _ | trivial | refine List.forall_mem_cons.2 ⟨?_, ?_⟩)) | (intro _; simp [RV.flatP, CD.flatP, getD_map Chg.cd, toNat_pred, st25, Chg.cd, Chg.bef, Chg.aft, Sd.cd, List.map_cons, List.map_nil]; done)) ?_ | refine CallAtG.mk _ (fun _ => f40 ..) ?_ | refine CallDS.mk _ (by simp [RV.data]) (fun _ => f40 ..) (by first | (intro h; cases h; done) | (intro _; repeat' (first | exact List.forall_mem_nil _ | trivial | refine List.forall_mem_cons.2 ⟨?_, ?_⟩)) | (intro _; simp [RV.flatP, CD.flatP, getD_map Chg.cd, toNat_pred, st25, Chg.cd, Chg.bef, Chg.aft, Sd.cd, List.map_cons, List.map_nil]; done)) ?_); try simp (disch := omega) only [go_sem, Nat.reduceLT, Nat.reduceAdd, Nat.reduceSub, Nat.reduceMul, Nat.reduceMod, Nat.reduceDiv, Nat.reduceBEq, Nat.reduceEqDiff, Nat.reduceLeDiff, reduceCtorEq, ↓reduceIte, beq_dec, Int.reduceToNat, Int.reduceLT, Int.reduceLE, Int.reduceAdd, Int.reduceSub, Int.reduceMul, Int.reduceEq, Int.reduceNeg, Int.reduceNe, Int.toNat_natCast, IntKind.signed, IntKind.bits, Int.reducePow, Nat.reducePow, getD_map Chg.cd, toNat_pred, st25, Chg.cd, Chg.bef, Chg.aft, Sd.cd, List.map_cons, List.map_nil]) | refine And.intro (fun hc => (?_ : AW _ _ _ _)) (fun hc => (?_ : AW _ _ _ _)) | simp (disch := omega) only [go_sem, Nat.reduceLT, Nat.reduceAdd, Nat.reduceSub, Nat.reduceMul, Nat.reduceMod, Nat.reduceDiv, Nat.reduceBEq, Nat.reduceEqDiff, Nat.reduceLeDiff, reduceCtorEq, ↓reduceIte, beq_dec, Int.reduceToNat, Int.reduceLT, Int.reduceLE, Int.reduceAdd, Int.reduceSub, Int.reduceMul, Int.reduceEq, Int.reduceNeg, Int.reduceNe, Int.toNat_natCast, IntKind.signed, IntKind.bits, Int.reducePow, Nat.reducePow, getD_map Chg.cd, toNat_pred, st25, Chg.cd, Chg.bef, Chg.aft, Sd.cd, List.map_cons, List.map_nil] | (refine And.intro ?_ ?_; focus (first | (intros; omega) | (intros; simp_all; done))) | refine And.intro (?_ : CallAt _ _ _ _ _ _ _ _) ?_ | refine And.intro (?_ : CallAt _ _ _ _ _ _ _ _ ∧ _) ?_ | refine And.intro (?_ : _ ∧ _) ?_ | fail))
    · rw [validC_no (i := i) (by omega)]
      rintro ⟨h1, h2⟩
      rw [chgOk_iff] at h1
      rcases hc with ((h | h) | h) | h
      · have := h2 (by omega); omega
      · rcases h1.1.1 with h' | h'
        · exact h' h.1
        · rw [h.2] at h'; cases h'
      · rcases h1.1.2 with h' | h'
        · rw [h.1] at h'; cases h'
        · exact h.2 h'
      · rcases h1.2 with h' | h'
        · rw [h.1] at h'; cases h'
        · exact h.2 h'
    · refine .mk (i + 1) ⟨by omega, step_lt hb ⟨(chgOk_iff _).2 ⟨⟨hc.1.1.2, hc.1.2⟩, hc.2⟩, fun h0 => by have := hc.1.1.1; omega⟩⟩ (by omega) ?_
      simp (disch := omega) only [go_sem, Nat.reduceLT, Nat.reduceAdd, Nat.reduceSub, Nat.reduceMul, Nat.reduceMod, Nat.reduceDiv, Nat.reduceBEq, Nat.reduceEqDiff, Nat.reduceLeDiff, reduceCtorEq, ↓reduceIte, beq_dec, Int.reduceToNat, Int.reduceLT, Int.reduceLE, Int.reduceAdd, Int.reduceSub, Int.reduceMul, Int.reduceEq, Int.reduceNeg, Int.reduceNe, Int.toNat_natCast, IntKind.signed, IntKind.bits, Int.reducePow, Nat.reducePow, Int.natCast_add, Int.natCast_one]
    · unfold validC
      rw [decide_eq_decide]
      constructor
      · intro h; exact ⟨by omega, fun j hj => hb j (by omega)⟩
      · intro h; omega
end Go.Proofs.Ythpnplebcmijnaa

-- P p_w.txt
open Go Go.AL Go.RowKit Go.Shelf
namespace Go.Proofs.Ythpnplebcmijnaa
set_option maxRecDepth 20000
def invC (c : Chg) : Chg := mkC c.key c.aft c.bef
def invE (l : List Chg) : Int := if validC l then 0 else 1
def invL (l : List Chg) : List Chg := if validC l then l.map invC else []
theorem inv_succ (l : List Chg) (i : Nat) (h : i < l.length) : (l.take (i + 1)).map invC = (l.take i).map invC ++ [invC (nth l i)] := by
  rw [List.take_succ_eq_append_getElem h, List.map_append, nth_eq l i h]; rfl
def st22 (l : List Chg) (i : Nat) : St := ⟨28, [(12, .I i), (11, .I l.length), (10, .c (CL l)), (4, .own 900)], [(900, .arr 37 5 (((l.take i).map invC ++ [invC (nth l i)]).map Chg.cd))]⟩
theorem x22 (l : List Chg) (i : Nat) {Q : Exit → St → Prop} {p : PlanA} {σ : St} (h : regA Try.prog (cutQ (st22 l i)) p σ ∧ Q .normal (st22 l i)) (hq : MonoQ Q := by repeat first | exact MonoQ.seq | refine MonoQ.block ?_) : AW Try.prog (.regX p) Q σ := AW_cutX _ (by kernel_rfl) h hq
theorem validC_len {l : List Chg} (h : validC l = true) : l.length ≤ 64 := by
  unfold validC at h
  rw [decide_eq_true_eq] at h
  exact h.1
theorem validC_ok {l : List Chg} (h : validC l = true) {i : Nat} (hi : i < l.length) : chgOk (nth l i) = true := by
  unfold validC at h
  rw [decide_eq_true_eq] at h
  exact (h.2 i hi).1
theorem chL_inv (xs : List Chg) {c : Chg} (h : chgOk c = true) : chL xs c.key ⟨c.new, c.has⟩ ⟨c.old, c.had⟩ = xs ++ [invC c] := by
  rw [chgOk_iff] at h
  unfold chL
  rw [if_neg]
  · rfl
  · intro e
    simp only [Sd.mk.injEq] at e
    rcases h.1.1 with h | h
    · exact h e.1.symm
    · rw [e.2] at h; simp at h
set_option maxHeartbeats 4000000 in
theorem f22 (l : List Chg) : FnR Try.prog 10 [.c (CL l)] [.own 37 5 ((invL l).map Chg.cd), .c (.I (invE l))] := by
  unfold invL invE
  by_cases hv : validC l = true
  · have hl := validC_len hv
    rw [if_pos hv, if_pos hv]
    refine fn_walk code10 (by simp) ?_
    (repeat' (first | refine NextAt.mk (fun hc => ?_) (fun pre n v post hc hkey => ?_) | refine Sni.mk (fun hc => ?_) ?_ | refine AW_seq ?_ | refine AW_block ?_ | ((first | refine AW_reg ?_ | refine AW_cond ?_ | refine AW_skip ?_ | refine AW_exit ?_ | refine AW_ret ?_ | refine AW_regD (by kernel_rfl) ?_ | refine AW_regX (by kernel_rfl) ?_ | refine CallAtG.t (Eq.refl true) ?_ | refine CallAtG.f (Eq.refl false) ?_ | refine CallAt.mk _ (f25 ..) (by first | (intro h; cases h; done) | (intro _; repeat' (first | exact List.forall_mem_nil _ | trivial | refine List.forall_mem_cons.2 ⟨?_, ?_⟩)) | (intro _; simp [RV.flatP, CD.flatP, hv]; done)) ?_ | refine CallAtG.mk _ (fun _ => f25 ..) ?_ | refine CallDS.mk _ (by simp [RV.data]) (fun _ => f25 ..) (by first | (intro h; cases h; done) | (intro _; repeat' (first | exact List.forall_mem_nil _ | trivial | refine List.forall_mem_cons.2 ⟨?_, ?_⟩)) | (intro _; simp [RV.flatP, CD.flatP, hv]; done)) ?_); try simp (disch := omega) only [go_sem, Nat.reduceLT, Nat.reduceAdd, Nat.reduceSub, Nat.reduceMul, Nat.reduceMod, Nat.reduceDiv, Nat.reduceBEq, Nat.reduceEqDiff, Nat.reduceLeDiff, reduceCtorEq, ↓reduceIte, beq_dec, Int.reduceToNat, Int.reduceLT, Int.reduceLE, Int.reduceAdd, Int.reduceSub, Int.reduceMul, Int.reduceEq, Int.reduceNeg, Int.reduceNe, Int.toNat_natCast, IntKind.signed, IntKind.bits, Int.reducePow, Nat.reducePow, hv]) | refine And.intro (fun hc => (?_ : AW _ _ _ _)) (fun hc => (?_ : AW _ _ _ _)) | simp (disch := omega) only [go_sem, Nat.reduceLT, Nat.reduceAdd, Nat.reduceSub, Nat.reduceMul, Nat.reduceMod, Nat.reduceDiv, Nat.reduceBEq, Nat.reduceEqDiff, Nat.reduceLeDiff, reduceCtorEq, ↓reduceIte, beq_dec, Int.reduceToNat, Int.reduceLT, Int.reduceLE, Int.reduceAdd, Int.reduceSub, Int.reduceMul, Int.reduceEq, Int.reduceNeg, Int.reduceNe, Int.toNat_natCast, IntKind.signed, IntKind.bits, Int.reducePow, Nat.reducePow, hv] | (refine And.intro ?_ ?_; focus (first | (intros; omega) | (intros; simp_all; done))) | refine And.intro (?_ : CallAt _ _ _ _ _ _ _ _) ?_ | refine And.intro (?_ : CallAt _ _ _ _ _ _ _ _ ∧ _) ?_ | fail))
    refine AW_nil 4 900 37 5 (by rfl) ?_
    refine AW_loopK [10, 11] [4, 6, 12, 13, 14, 15, 16, 17, 18, 19, 20, 21, 22, 23, 24, 25, 26] (fun i : Nat => i ≤ l.length) (fun i => [(4, .own 900), (12, .I i)]) (fun i => [(900, .arr 37 5 (((l.take i).map invC).map Chg.cd))]) (fun i => l.length - i) 0 (by omega) ?_ ?_
    · simp (disch := omega) only [go_sem, Nat.reduceLT, Nat.reduceAdd, Nat.reduceSub, Nat.reduceMul, Nat.reduceMod, Nat.reduceDiv, Nat.reduceBEq, Nat.reduceEqDiff, Nat.reduceLeDiff, reduceCtorEq, ↓reduceIte, beq_dec, Int.reduceToNat, Int.reduceLT, Int.reduceLE, Int.reduceAdd, Int.reduceSub, Int.reduceMul, Int.reduceEq, Int.reduceNeg, Int.reduceNe, Int.toNat_natCast, IntKind.signed, IntKind.bits, Int.reducePow, Nat.reducePow, Int.natCast_zero, List.take_zero, List.map_nil]
    · intro i hi
      have hb2 : (l.take i).length ≤ l.length := by simp; omega
      have tx := @x22 l i
      have g39 := f39 (nth l i)
      have g40 := f40 (nth l i)
      have g33 := f33 (nth l i).key (nth l i).aft (nth l i).bef
      simp only [Sd.av, Chg.av, Chg.aft, Chg.bef, Sd.cd, Chg.cd, List.map_cons, List.map_nil] at g39 g40 g33
      (repeat' (first | (with_reducible refine tx ?_; try simp (disch := omega) only [go_sem, Nat.reduceLT, Nat.reduceAdd, Nat.reduceSub, Nat.reduceMul, Nat.reduceMod, Nat.reduceDiv, Nat.reduceBEq, Nat.reduceEqDiff, Nat.reduceLeDiff, reduceCtorEq, ↓reduceIte, beq_dec, Int.reduceToNat, Int.reduceLT, Int.reduceLE, Int.reduceAdd, Int.reduceSub, Int.reduceMul, Int.reduceEq, Int.reduceNeg, Int.reduceNe, Int.toNat_natCast, IntKind.signed, IntKind.bits, Int.reducePow, Nat.reducePow, getD_map Chg.cd, st22, Chg.cd, invC, mkC, Chg.aft, Chg.bef, Sd.cd, List.map_cons, List.map_nil, List.map_append, List.length_append, List.length_map, maxLen]) | refine NextAt.mk (fun hc => ?_) (fun pre n v post hc hkey => ?_) | refine Sni.mk (fun hc => ?_) ?_ | refine AW_seq ?_ | refine AW_block ?_ | ((first | refine AW_reg ?_ | refine AW_cond ?_ | refine AW_skip ?_ | refine AW_exit ?_ | refine AW_ret ?_ | refine AW_regD (by kernel_rfl) ?_ | refine AW_regX (by kernel_rfl) ?_ | refine CallAtG.t (Eq.refl true) ?_ | refine CallAtG.f (Eq.refl false) ?_ | refine CallAt.mk _ (g39 ..) (by first | (intro h; cases h; done) | (intro _; repeat' (first | exact List.forall_mem_nil _ | trivial | refine List.forall_mem_cons.2 ⟨?_, ?_⟩)) | (intro _; simp [RV.flatP, CD.flatP, getD_map Chg.cd, st22, Chg.cd, invC, mkC, Chg.aft, Chg.bef, Sd.cd, List.map_cons, List.map_nil, List.map_append, List.length_append, List.length_map, maxLen]; done)) ?_ | refine CallAtG.mk _ (fun _ => g39 ..) ?_ | refine CallDS.mk _ (by simp [RV.data]) (fun _ => g39 ..) (by first | (intro h; cases h; done) | (intro _; repeat' (first | exact List.forall_mem_nil _ | trivial | refine List.forall_mem_cons.2 ⟨?_, ?_⟩)) | (intro _; simp [RV.flatP, CD.flatP, getD_map Chg.cd, st22, Chg.cd, invC, mkC, Chg.aft, Chg.bef, Sd.cd, List.map_cons, List.map_nil, List.map_append, List.length_append, List.length_map, maxLen]; done)) ?_ | refine CallAt.mk _ (g40 ..) (by first | (intro h; cases h; done) | (intro _; repeat' (first | exact List.forall_mem_nil _ | trivial | refine List.forall_mem_cons.2 ⟨?_, ?_⟩)) | (intro _; simp [RV.flatP, CD.flatP, getD_map Chg.cd, st22, Chg.cd, invC, mkC, Chg.aft, Chg.bef, Sd.cd, List.map_cons, List.map_nil, List.map_append, List.length_append, List.length_map, maxLen]; done)) ?_ | refine CallAtG.mk _ (fun _ => g40 ..) ?_ | refine CallDS.mk _ (by simp [RV.data]) (fun _ => g40 ..) (by first | (intro h; cases h; done) | (intro _; repeat' (first | exact List.forall_mem_nil _ | trivial | refine List.forall_mem_cons.2 ⟨?_, ?_⟩)) | (intro _; simp [RV.flatP, CD.flatP, getD_map Chg.cd, st22, Chg.cd, invC, mkC, Chg.aft, Chg.bef, Sd.cd, List.map_cons, List.map_nil, List.map_append, List.length_append, List.length_map, maxLen]; done)) ?_ | refine CallAt.mk _ (g33 ..) (by first | (intro h; cases h; done) | (intro _; repeat' (first | exact List.forall_mem_nil _ | trivial | refine List.forall_mem_cons.2 ⟨?_, ?_⟩)) | (intro _; simp [RV.flatP, CD.flatP, getD_map Chg.cd, st22, Chg.cd, invC, mkC, Chg.aft, Chg.bef, Sd.cd, List.map_cons, List.map_nil, List.map_append, List.length_append, List.length_map, maxLen]; done)) ?_ | refine CallAtG.mk _ (fun _ => g33 ..) ?_ | refine CallDS.mk _ (by simp [RV.data]) (fun _ => g33 ..) (by first | (intro h; cases h; done) | (intro _; repeat' (first | exact List.forall_mem_nil _ | trivial | refine List.forall_mem_cons.2 ⟨?_, ?_⟩)) | (intro _; simp [RV.flatP, CD.flatP, getD_map Chg.cd, st22, Chg.cd, invC, mkC, Chg.aft, Chg.bef, Sd.cd, List.map_cons, List.map_nil, List.map_append, List.length_append, List.length_map, maxLen]; done)) ?_); try simp (disch := omega) only [go_sem, Nat.reduceLT, Nat.reduceAdd, Nat.reduceSub, Nat.reduceMul, Nat.reduceMod, Nat.reduceDiv, Nat.reduceBEq, Nat.reduceEqDiff, Nat.reduceLeDiff, reduceCtorEq, ↓reduceIte, beq_dec, Int.reduceToNat, Int.reduceLT, Int.reduceLE, Int.reduceAdd, Int.reduceSub, Int.reduceMul, Int.reduceEq, Int.reduceNeg, Int.reduceNe, Int.toNat_natCast, IntKind.signed, IntKind.bits, Int.reducePow, Nat.reducePow, getD_map Chg.cd, st22, Chg.cd, invC, mkC, Chg.aft, Chg.bef, Sd.cd, List.map_cons, List.map_nil, List.map_append, List.length_append, List.length_map, maxLen]) | refine And.intro (fun hc => (?_ : AW _ _ _ _)) (fun hc => (?_ : AW _ _ _ _)) | simp (disch := omega) only [go_sem, Nat.reduceLT, Nat.reduceAdd, Nat.reduceSub, Nat.reduceMul, Nat.reduceMod, Nat.reduceDiv, Nat.reduceBEq, Nat.reduceEqDiff, Nat.reduceLeDiff, reduceCtorEq, ↓reduceIte, beq_dec, Int.reduceToNat, Int.reduceLT, Int.reduceLE, Int.reduceAdd, Int.reduceSub, Int.reduceMul, Int.reduceEq, Int.reduceNeg, Int.reduceNe, Int.toNat_natCast, IntKind.signed, IntKind.bits, Int.reducePow, Nat.reducePow, getD_map Chg.cd, st22, Chg.cd, invC, mkC, Chg.aft, Chg.bef, Sd.cd, List.map_cons, List.map_nil, List.map_append, List.length_append, List.length_map, maxLen] | (refine And.intro ?_ ?_; focus (first | (intros; omega) | (intros; simp_all; done))) | refine And.intro (?_ : CallAt _ _ _ _ _ _ _ _) ?_ | refine And.intro (?_ : CallAt _ _ _ _ _ _ _ _ ∧ _) ?_ | refine And.intro (?_ : _ ∧ _) ?_ | fail))
      all_goals try omega
      · refine .mk (i + 1) (by omega) (by omega) ?_
        rw [inv_succ l i (by omega), List.map_append]
        simp (disch := omega) only [go_sem, Nat.reduceLT, Nat.reduceAdd, Nat.reduceSub, Nat.reduceMul, Nat.reduceMod, Nat.reduceDiv, Nat.reduceBEq, Nat.reduceEqDiff, Nat.reduceLeDiff, reduceCtorEq, ↓reduceIte, beq_dec, Int.reduceToNat, Int.reduceLT, Int.reduceLE, Int.reduceAdd, Int.reduceSub, Int.reduceMul, Int.reduceEq, Int.reduceNeg, Int.reduceNe, Int.toNat_natCast, IntKind.signed, IntKind.bits, Int.reducePow, Nat.reducePow, Int.natCast_add, Int.natCast_one, invC, mkC, Chg.cd, Chg.aft, Chg.bef, List.map_cons, List.map_nil]
      · have hil : i = l.length := by omega
        rw [hil, List.take_length]
  · rw [if_neg hv, if_neg hv]
    rw [Bool.not_eq_true] at hv
    refine fn_walk code10 (by simp) ?_
    (repeat' (first | refine NextAt.mk (fun hc => ?_) (fun pre n v post hc hkey => ?_) | refine Sni.mk (fun hc => ?_) ?_ | refine AW_seq ?_ | refine AW_block ?_ | ((first | refine AW_reg ?_ | refine AW_cond ?_ | refine AW_skip ?_ | refine AW_exit ?_ | refine AW_ret ?_ | refine AW_regD (by kernel_rfl) ?_ | refine AW_regX (by kernel_rfl) ?_ | refine CallAtG.t (Eq.refl true) ?_ | refine CallAtG.f (Eq.refl false) ?_ | refine CallAt.mk _ (f25 ..) (by first | (intro h; cases h; done) | (intro _; repeat' (first | exact List.forall_mem_nil _ | trivial | refine List.forall_mem_cons.2 ⟨?_, ?_⟩)) | (intro _; simp [RV.flatP, CD.flatP, hv]; done)) ?_ | refine CallAtG.mk _ (fun _ => f25 ..) ?_ | refine CallDS.mk _ (by simp [RV.data]) (fun _ => f25 ..) (by first | (intro h; cases h; done) | (intro _; repeat' (first | exact List.forall_mem_nil _ | trivial | refine List.forall_mem_cons.2 ⟨?_, ?_⟩)) | (intro _; simp [RV.flatP, CD.flatP, hv]; done)) ?_); try simp (disch := omega) only [go_sem, Nat.reduceLT, Nat.reduceAdd, Nat.reduceSub, Nat.reduceMul, Nat.reduceMod, Nat.reduceDiv, Nat.reduceBEq, Nat.reduceEqDiff, Nat.reduceLeDiff, reduceCtorEq, ↓reduceIte, beq_dec, Int.reduceToNat, Int.reduceLT, Int.reduceLE, Int.reduceAdd, Int.reduceSub, Int.reduceMul, Int.reduceEq, Int.reduceNeg, Int.reduceNe, Int.toNat_natCast, IntKind.signed, IntKind.bits, Int.reducePow, Nat.reducePow, hv]) | refine And.intro (fun hc => (?_ : AW _ _ _ _)) (fun hc => (?_ : AW _ _ _ _)) | simp (disch := omega) only [go_sem, Nat.reduceLT, Nat.reduceAdd, Nat.reduceSub, Nat.reduceMul, Nat.reduceMod, Nat.reduceDiv, Nat.reduceBEq, Nat.reduceEqDiff, Nat.reduceLeDiff, reduceCtorEq, ↓reduceIte, beq_dec, Int.reduceToNat, Int.reduceLT, Int.reduceLE, Int.reduceAdd, Int.reduceSub, Int.reduceMul, Int.reduceEq, Int.reduceNeg, Int.reduceNe, Int.toNat_natCast, IntKind.signed, IntKind.bits, Int.reducePow, Nat.reducePow, hv] | (refine And.intro ?_ ?_; focus (first | (intros; omega) | (intros; simp_all; done))) | refine And.intro (?_ : CallAt _ _ _ _ _ _ _ _) ?_ | refine And.intro (?_ : CallAt _ _ _ _ _ _ _ _ ∧ _) ?_ | fail))
end Go.Proofs.Ythpnplebcmijnaa

-- P p_w.txt
open Go Go.AL Go.RowKit Go.Shelf
namespace Go.Proofs.Ythpnplebcmijnaa
set_option maxRecDepth 20000
end Go.Proofs.Ythpnplebcmijnaa

