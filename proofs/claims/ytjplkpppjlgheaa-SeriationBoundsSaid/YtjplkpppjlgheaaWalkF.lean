/-
  Lemmas for the proof: no statement of its own.
-/
import Derived.Test.YtjplkpppjlgheaaWalkE
set_option linter.unusedVariables false
set_option linter.unusedSimpArgs false
-- P p_30.txt
open Go Go.AL Go.RowKit
namespace Go.Proofs.Ytjplkpppjlgheaa
set_option maxRecDepth 20000

/-! ### neighbours exchanged -/
def swp (o : List Int) (i : Nat) : List Int := (o.set i (nth o (i + 1))).set (i + 1) (nth o i)
theorem swp_len (o : List Int) (i : Nat) : (swp o i).length = o.length := by simp [swp]
theorem swp_perm {o : List Int} {i : Nat} (h : i + 1 < o.length) : (swp o i).Perm o := by
  unfold swp
  rw [nth_eq o i (by omega), nth_eq o (i + 1) h]
  exact List.set_set_perm (by omega) h
theorem swp_nth {o : List Int} {i p : Nat} (h : i + 1 < o.length) (hp : p < o.length) : nth (swp o i) p = if p = i + 1 then nth o i else if p = i then nth o (i + 1) else nth o p := by
  unfold swp
  rw [set_nth _ _ _ _ (by simp; exact h), set_nth _ _ _ _ (by omega)]
theorem swp_swp {o : List Int} {i : Nat} (h : i + 1 < o.length) : swp (swp o i) i = o := nth_ext (by rw [swp_len, swp_len]) fun p hp => by
  rw [swp_len, swp_len] at hp
  rw [swp_nth (by rw [swp_len]; exact h) (by rw [swp_len]; exact hp), swp_nth h (by omega), swp_nth h (by omega), swp_nth h hp]
  by_cases h1 : p = i + 1
  · subst h1; simp
  · by_cases h2 : p = i
    · subst h2; simp
    · simp [h1, h2]
theorem isOrd_perm {o o' : List Int} {n : Int} (hp : o'.Perm o) (h : isOrd o n = true) : isOrd o' n = true := by
  obtain ⟨h0, h1, h2⟩ := isOrd_iff.1 h
  exact isOrd_iff.2 ⟨h0, ⟨hp.nodup_iff.2 h1.nd, fun x hx => h1.rg x (hp.mem_iff.1 hx)⟩, by rw [hp.length_eq]; exact h2⟩
/-- the first exchange that helps -/
def bet (t : List (List Int)) (o : List Int) (i : Nat) : Bool := decide (gapO t (swp o i) < gapO t o)
def fst (t : List (List Int)) (o : List Int) (m : Nat) : Option Nat := (List.range m).find? (bet t o)
theorem fst_none {t : List (List Int)} {o : List Int} {m : Nat} : fst t o m = none ↔ ∀ j, j < m → bet t o j = false := by
  unfold fst
  rw [List.find?_eq_none]
  constructor
  · intro h j hj; simpa using h j (List.mem_range.2 hj)
  · intro h j hj; simpa using h j (List.mem_range.1 hj)
theorem fst_some {t : List (List Int)} {o : List Int} {i : Nat} : ∀ {m : Nat}, i < m → bet t o i = true → (∀ j, j < i → bet t o j = false) → fst t o m = some i
  | 0, h, _, _ => by omega
  | m + 1, h, hb, hn => by
    unfold fst
    rw [List.range_succ, List.find?_append]
    by_cases e : i = m
    · subst e
      have : (List.range i).find? (bet t o) = none := fst_none.2 hn
      rw [this]
      simp [hb]
    · have := fst_some (m := m) (by omega) hb hn
      unfold fst at this
      rw [this]; rfl
theorem fst_bet {t : List (List Int)} {o : List Int} {i m : Nat} (h : fst t o m = some i) : i < m ∧ gapO t (swp o i) < gapO t o := by
  unfold fst at h
  have h1 := List.find?_some h
  have h2 := List.mem_of_find?_eq_some h
  exact ⟨List.mem_range.1 h2, of_decide_eq_true h1⟩
/-- exchanges as long as they help -/
def locV (t : List (List Int)) (m : Nat) (o : List Int) : List Int := match _h : fst t o m with
  | none => o
  | some i => locV t m (swp o i)
termination_by (gapO t o).toNat
decreasing_by
  have h1 := (fst_bet _h).2
  have h2 := gapO_nonneg t (swp o i)
  omega
theorem locV_none {t : List (List Int)} {m : Nat} {o : List Int} (h : fst t o m = none) : locV t m o = o := by
  rw [locV]; split
  · rfl
  · rename_i e; rw [h] at e; simp at e
theorem locV_some {t : List (List Int)} {m i : Nat} {o : List Int} (h : fst t o m = some i) : locV t m o = locV t m (swp o i) := by
  rw [locV]; split
  · rename_i e; rw [h] at e; simp at e
  · rename_i j e; rw [h] at e; simp at e; rw [e]
theorem locV_spec (t : List (List Int)) (m : Nat) (n : Int) (hm : m = n.toNat - 1) : ∀ (k : Nat) (o : List Int), (gapO t o).toNat = k → isOrd o n = true → isOrd (locV t m o) n = true ∧ gapO t (locV t m o) ≤ gapO t o ∧ fst t (locV t m o) m = none := by
  intro k
  induction k using Nat.strongRecOn with
  | ind k ih =>
    intro o hk ho
    cases hf : fst t o m with
    | none => rw [locV_none hf]; exact ⟨ho, Int.le_refl _, hf⟩
    | some i =>
      obtain ⟨h1, h2⟩ := fst_bet hf
      have h3 := gapO_nonneg t (swp o i)
      obtain ⟨q0, q1, q2⟩ := isOrd_iff.1 ho
      obtain ⟨g1, g2, g3⟩ := ih (gapO t (swp o i)).toNat (by omega) (swp o i) rfl (isOrd_perm (swp_perm (by omega)) ho)
      rw [locV_some hf]
      exact ⟨g1, by omega, g3⟩
def locR (n : Int) (t : List (List Int)) (o : List Int) : List Int := if runErr n t o = 0 then locV t (n.toNat - 1) o else []
def curO (o : List Int) (p : Nat × Bool) : List Int := if p.2 = true then swp o (p.1 - 1) else o
theorem cur_f (o : List Int) (i : Nat) : curO o (i, false) = o := rfl
theorem cur_t (o : List Int) (i : Nat) : curO o (i, true) = swp o (i - 1) := rfl
set_option maxHeartbeats 4000000 in
theorem v23 (n : Int) (t : List (List Int)) (o : List Int) (hl : o.length ≤ 1000000) : FnR Try.prog 23 [.I n, .c (Tab t), .c (Row o)] [ORow (locR n t o), .c (.I (runErr n t o))] := by
  have g17 := w20 n t o hl
  have g96 := f96 o (by omega)
  refine fn_walk code23 (by simp) ?_
  unfold locR
  by_cases hr : runErr n t o = 0
  case neg =>
    have hre : decide (runErr n t o = 0) = false := decide_eq_false hr
    simp only [if_neg hr]
    (repeat' (first | refine Sni.mk (fun hc => ?_) ?_ | refine AW_seq ?_ | refine AW_block ?_ | ((first | refine AW_reg ?_ | refine AW_cond ?_ | refine AW_skip ?_ | refine AW_exit ?_ | refine AW_ret ?_ | refine AW_regD (by kernel_rfl) ?_ | refine AW_regX (by kernel_rfl) ?_ | refine CallAtG.t (Eq.refl true) ?_ | refine CallAtG.f (Eq.refl false) ?_ | refine CallAt.mk _ (g17 ..) (by first | (intro h; cases h; done) | (intro _; repeat' (first | exact List.forall_mem_nil _ | trivial | refine List.forall_mem_cons.2 ⟨?_, ?_⟩)) | (intro _; simp [RV.flatP, CD.flatP, hre]; done)) ?_ | refine CallAtG.mk _ (fun _ => g17 ..) ?_ | refine CallDS.mk _ (by simp [RV.data]) (fun _ => g17 ..) (by first | (intro h; cases h; done) | (intro _; repeat' (first | exact List.forall_mem_nil _ | trivial | refine List.forall_mem_cons.2 ⟨?_, ?_⟩)) | (intro _; simp [RV.flatP, CD.flatP, hre]; done)) ?_); try simp (disch := omega) only [go_sem, Nat.reduceLT, Nat.reduceAdd, Nat.reduceSub, Nat.reduceMul, Nat.reduceBEq, Nat.reduceEqDiff, Nat.reduceLeDiff, reduceCtorEq, ↓reduceIte, beq_dec, Int.reduceToNat, Int.reduceLT, Int.reduceLE, Int.reduceAdd, Int.reduceSub, Int.reduceMul, Int.reduceEq, Int.reduceNeg, Int.reduceNe, Int.toNat_natCast, IntKind.signed, IntKind.bits, Int.reducePow, Nat.reducePow, hre]) | refine And.intro (fun hc => (?_ : AW _ _ _ _)) (fun hc => (?_ : AW _ _ _ _)) | simp (disch := omega) only [go_sem, Nat.reduceLT, Nat.reduceAdd, Nat.reduceSub, Nat.reduceMul, Nat.reduceBEq, Nat.reduceEqDiff, Nat.reduceLeDiff, reduceCtorEq, ↓reduceIte, beq_dec, Int.reduceToNat, Int.reduceLT, Int.reduceLE, Int.reduceAdd, Int.reduceSub, Int.reduceMul, Int.reduceEq, Int.reduceNeg, Int.reduceNe, Int.toNat_natCast, IntKind.signed, IntKind.bits, Int.reducePow, Nat.reducePow, hre] | (refine And.intro ?_ ?_; focus (first | (intros; omega) | (intros; simp_all; done))) | refine And.intro (?_ : CallAt _ _ _ _ _ _ _ _) ?_ | fail))
  case pos =>
    rw [gapsV_gapO hr, hr] at g17
    rw [hr]
    simp only [if_true]
    obtain ⟨hv, ho⟩ := runErr_zero.1 hr
    obtain ⟨q0, q1, q2⟩ := isOrd_iff.1 ho
    obtain ⟨m, rfl⟩ : ∃ m : Nat, n = m := ⟨n.toNat, by omega⟩
    simp only [Int.toNat_natCast] at q2 ⊢
    (repeat' (first | refine Sni.mk (fun hc => ?_) ?_ | refine AW_seq ?_ | refine AW_block ?_ | ((first | refine AW_reg ?_ | refine AW_cond ?_ | refine AW_skip ?_ | refine AW_exit ?_ | refine AW_ret ?_ | refine AW_regD (by kernel_rfl) ?_ | refine AW_regX (by kernel_rfl) ?_ | refine CallAtG.t (Eq.refl true) ?_ | refine CallAtG.f (Eq.refl false) ?_ | refine CallAt.mk _ (g17 ..) (by first | (intro h; cases h; done) | (intro _; repeat' (first | exact List.forall_mem_nil _ | trivial | refine List.forall_mem_cons.2 ⟨?_, ?_⟩)) | (intro _; simp [RV.flatP, CD.flatP]; done)) ?_ | refine CallAtG.mk _ (fun _ => g17 ..) ?_ | refine CallDS.mk _ (by simp [RV.data]) (fun _ => g17 ..) (by first | (intro h; cases h; done) | (intro _; repeat' (first | exact List.forall_mem_nil _ | trivial | refine List.forall_mem_cons.2 ⟨?_, ?_⟩)) | (intro _; simp [RV.flatP, CD.flatP]; done)) ?_ | refine CallAt.mk _ (g96 ..) (by first | (intro h; cases h; done) | (intro _; repeat' (first | exact List.forall_mem_nil _ | trivial | refine List.forall_mem_cons.2 ⟨?_, ?_⟩)) | (intro _; simp [RV.flatP, CD.flatP]; done)) ?_ | refine CallAtG.mk _ (fun _ => g96 ..) ?_ | refine CallDS.mk _ (by simp [RV.data]) (fun _ => g96 ..) (by first | (intro h; cases h; done) | (intro _; repeat' (first | exact List.forall_mem_nil _ | trivial | refine List.forall_mem_cons.2 ⟨?_, ?_⟩)) | (intro _; simp [RV.flatP, CD.flatP]; done)) ?_); try simp (disch := omega) only [go_sem, Nat.reduceLT, Nat.reduceAdd, Nat.reduceSub, Nat.reduceMul, Nat.reduceBEq, Nat.reduceEqDiff, Nat.reduceLeDiff, reduceCtorEq, ↓reduceIte, beq_dec, Int.reduceToNat, Int.reduceLT, Int.reduceLE, Int.reduceAdd, Int.reduceSub, Int.reduceMul, Int.reduceEq, Int.reduceNeg, Int.reduceNe, Int.toNat_natCast, IntKind.signed, IntKind.bits, Int.reducePow, Nat.reducePow]) | refine And.intro (fun hc => (?_ : AW _ _ _ _)) (fun hc => (?_ : AW _ _ _ _)) | simp (disch := omega) only [go_sem, Nat.reduceLT, Nat.reduceAdd, Nat.reduceSub, Nat.reduceMul, Nat.reduceBEq, Nat.reduceEqDiff, Nat.reduceLeDiff, reduceCtorEq, ↓reduceIte, beq_dec, Int.reduceToNat, Int.reduceLT, Int.reduceLE, Int.reduceAdd, Int.reduceSub, Int.reduceMul, Int.reduceEq, Int.reduceNeg, Int.reduceNe, Int.toNat_natCast, IntKind.signed, IntKind.bits, Int.reducePow, Nat.reducePow] | (refine And.intro ?_ ?_; focus (first | (intros; omega) | (intros; simp_all; done))) | refine And.intro (?_ : CallAt _ _ _ _ _ _ _ _) ?_ | fail))
    refine AW_loopK [0, 1, 10] [8, 11, 12, 13, 14, 27, 28, 29, 30, 31, 32, 33, 34, 35, 36, 37, 38, 39, 40, 41, 42, 43, 44, 45, 46, 47, 48, 49, 50, 51, 52, 53, 54, 55, 56, 57, 58, 59, 60, 61, 62, 63, 64, 65, 66, 67, 68, 69, 70, 71, 72, 73, 74, 75, 76, 77, 78, 79] (fun p : List Int × Bool => isOrd p.1 m = true ∧ locV t (m - 1) p.1 = locV t (m - 1) o ∧ (p.2 = false → fst t p.1 (m - 1) = none)) (fun p => [(11, .B p.2), (8, .I (gapO t p.1)), (10, .own 26)]) (fun p => [(26, .arr 3 1 (p.1.map fun x => [CD.I x]))]) (fun p => 2 * (gapO t p.1).toNat + (if p.2 = true then 1 else 0)) (o, true) ⟨ho, rfl, by simp⟩ ?_ ?_
    · simp (disch := omega) only [go_sem, Nat.reduceLT, Nat.reduceAdd, Nat.reduceSub, Nat.reduceMul, Nat.reduceBEq, Nat.reduceEqDiff, Nat.reduceLeDiff, reduceCtorEq, ↓reduceIte, beq_dec, Int.reduceToNat, Int.reduceLT, Int.reduceLE, Int.reduceAdd, Int.reduceSub, Int.reduceMul, Int.reduceEq, Int.reduceNeg, Int.reduceNe, Int.toNat_natCast, IntKind.signed, IntKind.bits, Int.reducePow, Nat.reducePow]
    · rintro ⟨o', b⟩ ⟨ho', hloc, hb⟩
      dsimp only at ho' hloc hb
      cases b with
      | false =>
        have e := locV_none (hb rfl)
        rw [e] at hloc
        subst hloc
        (repeat' (first | refine Sni.mk (fun hc => ?_) ?_ | refine AW_seq ?_ | refine AW_block ?_ | ((first | refine AW_reg ?_ | refine AW_cond ?_ | refine AW_skip ?_ | refine AW_exit ?_ | refine AW_ret ?_ | refine AW_regD (by kernel_rfl) ?_ | refine AW_regX (by kernel_rfl) ?_ | refine CallAtG.t (Eq.refl true) ?_ | refine CallAtG.f (Eq.refl false) ?_); try simp (disch := omega) only [go_sem, Nat.reduceLT, Nat.reduceAdd, Nat.reduceSub, Nat.reduceMul, Nat.reduceBEq, Nat.reduceEqDiff, Nat.reduceLeDiff, reduceCtorEq, ↓reduceIte, beq_dec, Int.reduceToNat, Int.reduceLT, Int.reduceLE, Int.reduceAdd, Int.reduceSub, Int.reduceMul, Int.reduceEq, Int.reduceNeg, Int.reduceNe, Int.toNat_natCast, IntKind.signed, IntKind.bits, Int.reducePow, Nat.reducePow]) | refine And.intro (fun hc => (?_ : AW _ _ _ _)) (fun hc => (?_ : AW _ _ _ _)) | simp (disch := omega) only [go_sem, Nat.reduceLT, Nat.reduceAdd, Nat.reduceSub, Nat.reduceMul, Nat.reduceBEq, Nat.reduceEqDiff, Nat.reduceLeDiff, reduceCtorEq, ↓reduceIte, beq_dec, Int.reduceToNat, Int.reduceLT, Int.reduceLE, Int.reduceAdd, Int.reduceSub, Int.reduceMul, Int.reduceEq, Int.reduceNeg, Int.reduceNe, Int.toNat_natCast, IntKind.signed, IntKind.bits, Int.reducePow, Nat.reducePow] | (refine And.intro ?_ ?_; focus (first | (intros; omega) | (intros; simp_all; done))) | refine And.intro (?_ : CallAt _ _ _ _ _ _ _ _) ?_ | fail))
        all_goals trace_state
      | true =>
        have hgn := gapO_nonneg t o'
        obtain ⟨p0, p1, p2⟩ := isOrd_iff.1 ho'
        simp only [Int.toNat_natCast] at p2
        (repeat' (first | refine Sni.mk (fun hc => ?_) ?_ | refine AW_seq ?_ | refine AW_block ?_ | ((first | refine AW_reg ?_ | refine AW_cond ?_ | refine AW_skip ?_ | refine AW_exit ?_ | refine AW_ret ?_ | refine AW_regD (by kernel_rfl) ?_ | refine AW_regX (by kernel_rfl) ?_ | refine CallAtG.t (Eq.refl true) ?_ | refine CallAtG.f (Eq.refl false) ?_); try simp (disch := omega) only [go_sem, Nat.reduceLT, Nat.reduceAdd, Nat.reduceSub, Nat.reduceMul, Nat.reduceBEq, Nat.reduceEqDiff, Nat.reduceLeDiff, reduceCtorEq, ↓reduceIte, beq_dec, Int.reduceToNat, Int.reduceLT, Int.reduceLE, Int.reduceAdd, Int.reduceSub, Int.reduceMul, Int.reduceEq, Int.reduceNeg, Int.reduceNe, Int.toNat_natCast, IntKind.signed, IntKind.bits, Int.reducePow, Nat.reducePow]) | refine And.intro (fun hc => (?_ : AW _ _ _ _)) (fun hc => (?_ : AW _ _ _ _)) | simp (disch := omega) only [go_sem, Nat.reduceLT, Nat.reduceAdd, Nat.reduceSub, Nat.reduceMul, Nat.reduceBEq, Nat.reduceEqDiff, Nat.reduceLeDiff, reduceCtorEq, ↓reduceIte, beq_dec, Int.reduceToNat, Int.reduceLT, Int.reduceLE, Int.reduceAdd, Int.reduceSub, Int.reduceMul, Int.reduceEq, Int.reduceNeg, Int.reduceNe, Int.toNat_natCast, IntKind.signed, IntKind.bits, Int.reducePow, Nat.reducePow] | (refine And.intro ?_ ?_; focus (first | (intros; omega) | (intros; simp_all; done))) | refine And.intro (?_ : CallAt _ _ _ _ _ _ _ _) ?_ | fail))
        refine AW_loopK [0, 1, 10] [8, 11, 12, 13, 14, 28, 29, 30, 31, 32, 33, 34, 35, 36, 37, 38, 39, 40, 41, 42, 43, 44, 45, 46, 47, 48, 49, 50, 51, 52, 53, 54, 55, 56, 57, 58, 59, 60, 61, 62, 63, 64, 65, 66, 67, 68, 69, 70, 71, 72, 73, 74, 75, 76, 77, 78, 79] (fun p : Nat × Bool => p.1 ≤ m - 1 ∧ (p.2 = false → ∀ j, j < p.1 → bet t o' j = false) ∧ (p.2 = true → 0 < p.1 ∧ fst t o' (m - 1) = some (p.1 - 1))) (fun p => [(12, .I ((p.1 : Int) + 1)), (11, .B p.2), (8, .I (gapO t (curO o' p))), (10, .own 26)]) (fun p => [(26, .arr 3 1 ((curO o' p).map fun x => [CD.I x]))]) (fun p => m - 1 - p.1) (0, false) ⟨by omega, by simp, by simp⟩ ?_ ?_
        · simp (disch := omega) only [go_sem, Nat.reduceLT, Nat.reduceAdd, Nat.reduceSub, Nat.reduceMul, Nat.reduceBEq, Nat.reduceEqDiff, Nat.reduceLeDiff, reduceCtorEq, ↓reduceIte, beq_dec, Int.reduceToNat, Int.reduceLT, Int.reduceLE, Int.reduceAdd, Int.reduceSub, Int.reduceMul, Int.reduceEq, Int.reduceNeg, Int.reduceNe, Int.toNat_natCast, IntKind.signed, IntKind.bits, Int.reducePow, Nat.reducePow, cur_f, Int.natCast_zero, Int.zero_add]
        · rintro ⟨i, b⟩ ⟨hi, hb0, hb1⟩
          dsimp only at hi hb0 hb1
          cases b with
          | true =>
            obtain ⟨hi0, hf⟩ := hb1 rfl
            (repeat' (first | refine Sni.mk (fun hc => ?_) ?_ | refine AW_seq ?_ | refine AW_block ?_ | ((first | refine AW_reg ?_ | refine AW_cond ?_ | refine AW_skip ?_ | refine AW_exit ?_ | refine AW_ret ?_ | refine AW_regD (by kernel_rfl) ?_ | refine AW_regX (by kernel_rfl) ?_ | refine CallAtG.t (Eq.refl true) ?_ | refine CallAtG.f (Eq.refl false) ?_); try simp (disch := omega) only [go_sem, Nat.reduceLT, Nat.reduceAdd, Nat.reduceSub, Nat.reduceMul, Nat.reduceBEq, Nat.reduceEqDiff, Nat.reduceLeDiff, reduceCtorEq, ↓reduceIte, beq_dec, Int.reduceToNat, Int.reduceLT, Int.reduceLE, Int.reduceAdd, Int.reduceSub, Int.reduceMul, Int.reduceEq, Int.reduceNeg, Int.reduceNe, Int.toNat_natCast, IntKind.signed, IntKind.bits, Int.reducePow, Nat.reducePow]) | refine And.intro (fun hc => (?_ : AW _ _ _ _)) (fun hc => (?_ : AW _ _ _ _)) | simp (disch := omega) only [go_sem, Nat.reduceLT, Nat.reduceAdd, Nat.reduceSub, Nat.reduceMul, Nat.reduceBEq, Nat.reduceEqDiff, Nat.reduceLeDiff, reduceCtorEq, ↓reduceIte, beq_dec, Int.reduceToNat, Int.reduceLT, Int.reduceLE, Int.reduceAdd, Int.reduceSub, Int.reduceMul, Int.reduceEq, Int.reduceNeg, Int.reduceNe, Int.toNat_natCast, IntKind.signed, IntKind.bits, Int.reducePow, Nat.reducePow] | (refine And.intro ?_ ?_; focus (first | (intros; omega) | (intros; simp_all; done))) | refine And.intro (?_ : CallAt _ _ _ _ _ _ _ _) ?_ | fail))
            have hbt := fst_bet hf
            have hgs := gapO_nonneg t (swp o' (i - 1))
            refine .mk (swp o' (i - 1), true) ⟨isOrd_perm (swp_perm (by omega)) ho', ?_, by simp⟩ (by simp only [if_true]; omega) ?_
            · rw [← locV_some hf]; exact hloc
            · simp (disch := omega) only [go_sem, Nat.reduceLT, Nat.reduceAdd, Nat.reduceSub, Nat.reduceMul, Nat.reduceBEq, Nat.reduceEqDiff, Nat.reduceLeDiff, reduceCtorEq, ↓reduceIte, beq_dec, Int.reduceToNat, Int.reduceLT, Int.reduceLE, Int.reduceAdd, Int.reduceSub, Int.reduceMul, Int.reduceEq, Int.reduceNeg, Int.reduceNe, Int.toNat_natCast, IntKind.signed, IntKind.bits, Int.reducePow, Nat.reducePow, cur_t]
          | false =>
            by_cases him : i < m - 1
            case neg =>
              have hd : decide ((i : Int) + 1 < (m : Int)) = false := decide_eq_false (by omega)
              (repeat' (first | refine Sni.mk (fun hc => ?_) ?_ | refine AW_seq ?_ | refine AW_block ?_ | ((first | refine AW_reg ?_ | refine AW_cond ?_ | refine AW_skip ?_ | refine AW_exit ?_ | refine AW_ret ?_ | refine AW_regD (by kernel_rfl) ?_ | refine AW_regX (by kernel_rfl) ?_ | refine CallAtG.t (Eq.refl true) ?_ | refine CallAtG.f (Eq.refl false) ?_); try simp (disch := omega) only [go_sem, Nat.reduceLT, Nat.reduceAdd, Nat.reduceSub, Nat.reduceMul, Nat.reduceBEq, Nat.reduceEqDiff, Nat.reduceLeDiff, reduceCtorEq, ↓reduceIte, beq_dec, Int.reduceToNat, Int.reduceLT, Int.reduceLE, Int.reduceAdd, Int.reduceSub, Int.reduceMul, Int.reduceEq, Int.reduceNeg, Int.reduceNe, Int.toNat_natCast, IntKind.signed, IntKind.bits, Int.reducePow, Nat.reducePow, hd]) | refine And.intro (fun hc => (?_ : AW _ _ _ _)) (fun hc => (?_ : AW _ _ _ _)) | simp (disch := omega) only [go_sem, Nat.reduceLT, Nat.reduceAdd, Nat.reduceSub, Nat.reduceMul, Nat.reduceBEq, Nat.reduceEqDiff, Nat.reduceLeDiff, reduceCtorEq, ↓reduceIte, beq_dec, Int.reduceToNat, Int.reduceLT, Int.reduceLE, Int.reduceAdd, Int.reduceSub, Int.reduceMul, Int.reduceEq, Int.reduceNeg, Int.reduceNe, Int.toNat_natCast, IntKind.signed, IntKind.bits, Int.reducePow, Nat.reducePow, hd] | (refine And.intro ?_ ?_; focus (first | (intros; omega) | (intros; simp_all; done))) | refine And.intro (?_ : CallAt _ _ _ _ _ _ _ _) ?_ | fail))
              refine .mk (o', false) ⟨ho', hloc, fun _ => fst_none.2 fun j hj => hb0 rfl j (by omega)⟩ (by simp) ?_
              simp (disch := omega) only [go_sem, Nat.reduceLT, Nat.reduceAdd, Nat.reduceSub, Nat.reduceMul, Nat.reduceBEq, Nat.reduceEqDiff, Nat.reduceLeDiff, reduceCtorEq, ↓reduceIte, beq_dec, Int.reduceToNat, Int.reduceLT, Int.reduceLE, Int.reduceAdd, Int.reduceSub, Int.reduceMul, Int.reduceEq, Int.reduceNeg, Int.reduceNe, Int.toNat_natCast, IntKind.signed, IntKind.bits, Int.reducePow, Nat.reducePow, cur_f]
            case pos =>
              have hd : decide ((i : Int) + 1 < (m : Int)) = true := decide_eq_true (by omega)
              have ht1 : ((i : Int) + 1 - 1).toNat = i := by omega
              have ht2 : ((i : Int) + 1).toNat = i + 1 := by omega
              have hsl := swp_len o' i
              have eS : (o'.set i (nth o' (i + 1))).set (i + 1) (nth o' i) = swp o' i := rfl
              have eB : ((swp o' i).set i (nth (swp o' i) (i + 1))).set (i + 1) (nth (swp o' i) i) = o' := swp_swp (by omega)
              have hos := isOrd_perm (swp_perm (o := o') (i := i) (by omega)) ho'
              have hrs := runErr_zero.2 ⟨hv, hos⟩
              have g17s := w20 m t (swp o' i) (by omega)
              rw [gapsV_gapO hrs, hrs] at g17s
              simp only [Row] at g17s
              have hsl1 : (o'.set i (nth o' (i + 1))).length = o'.length := by simp
              have hsl2 : ((swp o' i).set i (nth (swp o' i) (i + 1))).length = o'.length := by simp [swp]
              cases hbt : bet t o' i with
              | true =>
                have hlt : decide (gapO t (swp o' i) < gapO t o') = true := hbt
                (repeat' (first | refine Sni.mk (fun hc => ?_) ?_ | refine AW_seq ?_ | refine AW_block ?_ | ((first | refine AW_reg ?_ | refine AW_cond ?_ | refine AW_skip ?_ | refine AW_exit ?_ | refine AW_ret ?_ | refine AW_regD (by kernel_rfl) ?_ | refine AW_regX (by kernel_rfl) ?_ | refine CallAtG.t (Eq.refl true) ?_ | refine CallAtG.f (Eq.refl false) ?_); try simp (disch := omega) only [go_sem, Nat.reduceLT, Nat.reduceAdd, Nat.reduceSub, Nat.reduceMul, Nat.reduceBEq, Nat.reduceEqDiff, Nat.reduceLeDiff, reduceCtorEq, ↓reduceIte, beq_dec, Int.reduceToNat, Int.reduceLT, Int.reduceLE, Int.reduceAdd, Int.reduceSub, Int.reduceMul, Int.reduceEq, Int.reduceNeg, Int.reduceNe, Int.toNat_natCast, IntKind.signed, IntKind.bits, Int.reducePow, Nat.reducePow, cur_f, hd, ht1, ht2, hsl, hsl1, getD_map (fun x : Int => [CD.I x]), iset', eS]) | refine And.intro (fun hc => (?_ : AW _ _ _ _)) (fun hc => (?_ : AW _ _ _ _)) | simp (disch := omega) only [go_sem, Nat.reduceLT, Nat.reduceAdd, Nat.reduceSub, Nat.reduceMul, Nat.reduceBEq, Nat.reduceEqDiff, Nat.reduceLeDiff, reduceCtorEq, ↓reduceIte, beq_dec, Int.reduceToNat, Int.reduceLT, Int.reduceLE, Int.reduceAdd, Int.reduceSub, Int.reduceMul, Int.reduceEq, Int.reduceNeg, Int.reduceNe, Int.toNat_natCast, IntKind.signed, IntKind.bits, Int.reducePow, Nat.reducePow, cur_f, hd, ht1, ht2, hsl, hsl1, getD_map (fun x : Int => [CD.I x]), iset', eS] | (refine And.intro ?_ ?_; focus (first | (intros; omega) | (intros; simp_all; done))) | refine And.intro (?_ : CallAt _ _ _ _ _ _ _ _) ?_ | fail))
                refine And.intro ?_ ?_
                all_goals
                  (repeat' (first | refine Sni.mk (fun hc => ?_) ?_ | refine AW_seq ?_ | refine AW_block ?_ | ((first | refine AW_reg ?_ | refine AW_cond ?_ | refine AW_skip ?_ | refine AW_exit ?_ | refine AW_ret ?_ | refine AW_regD (by kernel_rfl) ?_ | refine AW_regX (by kernel_rfl) ?_ | refine CallAtG.t (Eq.refl true) ?_ | refine CallAtG.f (Eq.refl false) ?_ | refine CallAt.mk _ (g17s ..) (by first | (intro h; cases h; done) | (intro _; repeat' (first | exact List.forall_mem_nil _ | trivial | refine List.forall_mem_cons.2 ⟨?_, ?_⟩)) | (intro _; simp [RV.flatP, CD.flatP, hsl, hsl1, hlt]; done)) ?_ | refine CallAtG.mk _ (fun _ => g17s ..) ?_ | refine CallDS.mk _ (by simp [RV.data]) (fun _ => g17s ..) (by first | (intro h; cases h; done) | (intro _; repeat' (first | exact List.forall_mem_nil _ | trivial | refine List.forall_mem_cons.2 ⟨?_, ?_⟩)) | (intro _; simp [RV.flatP, CD.flatP, hsl, hsl1, hlt]; done)) ?_); try simp (disch := omega) only [go_sem, Nat.reduceLT, Nat.reduceAdd, Nat.reduceSub, Nat.reduceMul, Nat.reduceBEq, Nat.reduceEqDiff, Nat.reduceLeDiff, reduceCtorEq, ↓reduceIte, beq_dec, Int.reduceToNat, Int.reduceLT, Int.reduceLE, Int.reduceAdd, Int.reduceSub, Int.reduceMul, Int.reduceEq, Int.reduceNeg, Int.reduceNe, Int.toNat_natCast, IntKind.signed, IntKind.bits, Int.reducePow, Nat.reducePow, hsl, hsl1, hlt]) | refine And.intro (fun hc => (?_ : AW _ _ _ _)) (fun hc => (?_ : AW _ _ _ _)) | simp (disch := omega) only [go_sem, Nat.reduceLT, Nat.reduceAdd, Nat.reduceSub, Nat.reduceMul, Nat.reduceBEq, Nat.reduceEqDiff, Nat.reduceLeDiff, reduceCtorEq, ↓reduceIte, beq_dec, Int.reduceToNat, Int.reduceLT, Int.reduceLE, Int.reduceAdd, Int.reduceSub, Int.reduceMul, Int.reduceEq, Int.reduceNeg, Int.reduceNe, Int.toNat_natCast, IntKind.signed, IntKind.bits, Int.reducePow, Nat.reducePow, hsl, hsl1, hlt] | (refine And.intro ?_ ?_; focus (first | (intros; omega) | (intros; simp_all; done))) | refine And.intro (?_ : CallAt _ _ _ _ _ _ _ _) ?_ | fail))
                  refine .mk (i + 1, true) ⟨by omega, by simp, fun _ => ⟨by omega, fst_some him hbt (hb0 rfl)⟩⟩ (by omega) ?_
                  simp (disch := omega) only [go_sem, Nat.reduceLT, Nat.reduceAdd, Nat.reduceSub, Nat.reduceMul, Nat.reduceBEq, Nat.reduceEqDiff, Nat.reduceLeDiff, reduceCtorEq, ↓reduceIte, beq_dec, Int.reduceToNat, Int.reduceLT, Int.reduceLE, Int.reduceAdd, Int.reduceSub, Int.reduceMul, Int.reduceEq, Int.reduceNeg, Int.reduceNe, Int.toNat_natCast, IntKind.signed, IntKind.bits, Int.reducePow, Nat.reducePow, cur_t, Nat.add_sub_cancel, Int.natCast_add, Int.natCast_one]
              | false =>
                have hlt : decide (gapO t (swp o' i) < gapO t o') = false := hbt
                (repeat' (first | refine Sni.mk (fun hc => ?_) ?_ | refine AW_seq ?_ | refine AW_block ?_ | ((first | refine AW_reg ?_ | refine AW_cond ?_ | refine AW_skip ?_ | refine AW_exit ?_ | refine AW_ret ?_ | refine AW_regD (by kernel_rfl) ?_ | refine AW_regX (by kernel_rfl) ?_ | refine CallAtG.t (Eq.refl true) ?_ | refine CallAtG.f (Eq.refl false) ?_); try simp (disch := omega) only [go_sem, Nat.reduceLT, Nat.reduceAdd, Nat.reduceSub, Nat.reduceMul, Nat.reduceBEq, Nat.reduceEqDiff, Nat.reduceLeDiff, reduceCtorEq, ↓reduceIte, beq_dec, Int.reduceToNat, Int.reduceLT, Int.reduceLE, Int.reduceAdd, Int.reduceSub, Int.reduceMul, Int.reduceEq, Int.reduceNeg, Int.reduceNe, Int.toNat_natCast, IntKind.signed, IntKind.bits, Int.reducePow, Nat.reducePow, cur_f, hd, ht1, ht2, hsl, hsl1, getD_map (fun x : Int => [CD.I x]), iset', eS]) | refine And.intro (fun hc => (?_ : AW _ _ _ _)) (fun hc => (?_ : AW _ _ _ _)) | simp (disch := omega) only [go_sem, Nat.reduceLT, Nat.reduceAdd, Nat.reduceSub, Nat.reduceMul, Nat.reduceBEq, Nat.reduceEqDiff, Nat.reduceLeDiff, reduceCtorEq, ↓reduceIte, beq_dec, Int.reduceToNat, Int.reduceLT, Int.reduceLE, Int.reduceAdd, Int.reduceSub, Int.reduceMul, Int.reduceEq, Int.reduceNeg, Int.reduceNe, Int.toNat_natCast, IntKind.signed, IntKind.bits, Int.reducePow, Nat.reducePow, cur_f, hd, ht1, ht2, hsl, hsl1, getD_map (fun x : Int => [CD.I x]), iset', eS] | (refine And.intro ?_ ?_; focus (first | (intros; omega) | (intros; simp_all; done))) | refine And.intro (?_ : CallAt _ _ _ _ _ _ _ _) ?_ | fail))
                refine And.intro ?_ ?_
                all_goals
                  (repeat' (first | refine Sni.mk (fun hc => ?_) ?_ | refine AW_seq ?_ | refine AW_block ?_ | ((first | refine AW_reg ?_ | refine AW_cond ?_ | refine AW_skip ?_ | refine AW_exit ?_ | refine AW_ret ?_ | refine AW_regD (by kernel_rfl) ?_ | refine AW_regX (by kernel_rfl) ?_ | refine CallAtG.t (Eq.refl true) ?_ | refine CallAtG.f (Eq.refl false) ?_ | refine CallAt.mk _ (g17s ..) (by first | (intro h; cases h; done) | (intro _; repeat' (first | exact List.forall_mem_nil _ | trivial | refine List.forall_mem_cons.2 ⟨?_, ?_⟩)) | (intro _; simp [RV.flatP, CD.flatP, hsl, hsl1, hsl2, hlt, ht1, ht2, getD_map (fun x : Int => [CD.I x]), iset', eB]; done)) ?_ | refine CallAtG.mk _ (fun _ => g17s ..) ?_ | refine CallDS.mk _ (by simp [RV.data]) (fun _ => g17s ..) (by first | (intro h; cases h; done) | (intro _; repeat' (first | exact List.forall_mem_nil _ | trivial | refine List.forall_mem_cons.2 ⟨?_, ?_⟩)) | (intro _; simp [RV.flatP, CD.flatP, hsl, hsl1, hsl2, hlt, ht1, ht2, getD_map (fun x : Int => [CD.I x]), iset', eB]; done)) ?_); try simp (disch := omega) only [go_sem, Nat.reduceLT, Nat.reduceAdd, Nat.reduceSub, Nat.reduceMul, Nat.reduceBEq, Nat.reduceEqDiff, Nat.reduceLeDiff, reduceCtorEq, ↓reduceIte, beq_dec, Int.reduceToNat, Int.reduceLT, Int.reduceLE, Int.reduceAdd, Int.reduceSub, Int.reduceMul, Int.reduceEq, Int.reduceNeg, Int.reduceNe, Int.toNat_natCast, IntKind.signed, IntKind.bits, Int.reducePow, Nat.reducePow, hsl, hsl1, hsl2, hlt, ht1, ht2, getD_map (fun x : Int => [CD.I x]), iset', eB]) | refine And.intro (fun hc => (?_ : AW _ _ _ _)) (fun hc => (?_ : AW _ _ _ _)) | simp (disch := omega) only [go_sem, Nat.reduceLT, Nat.reduceAdd, Nat.reduceSub, Nat.reduceMul, Nat.reduceBEq, Nat.reduceEqDiff, Nat.reduceLeDiff, reduceCtorEq, ↓reduceIte, beq_dec, Int.reduceToNat, Int.reduceLT, Int.reduceLE, Int.reduceAdd, Int.reduceSub, Int.reduceMul, Int.reduceEq, Int.reduceNeg, Int.reduceNe, Int.toNat_natCast, IntKind.signed, IntKind.bits, Int.reducePow, Nat.reducePow, hsl, hsl1, hsl2, hlt, ht1, ht2, getD_map (fun x : Int => [CD.I x]), iset', eB] | (refine And.intro ?_ ?_; focus (first | (intros; omega) | (intros; simp_all; done))) | refine And.intro (?_ : CallAt _ _ _ _ _ _ _ _) ?_ | fail))
                  refine And.intro ?_ ?_
                  all_goals
                    (repeat' (first | refine Sni.mk (fun hc => ?_) ?_ | refine AW_seq ?_ | refine AW_block ?_ | ((first | refine AW_reg ?_ | refine AW_cond ?_ | refine AW_skip ?_ | refine AW_exit ?_ | refine AW_ret ?_ | refine AW_regD (by kernel_rfl) ?_ | refine AW_regX (by kernel_rfl) ?_ | refine CallAtG.t (Eq.refl true) ?_ | refine CallAtG.f (Eq.refl false) ?_); try simp (disch := omega) only [go_sem, Nat.reduceLT, Nat.reduceAdd, Nat.reduceSub, Nat.reduceMul, Nat.reduceBEq, Nat.reduceEqDiff, Nat.reduceLeDiff, reduceCtorEq, ↓reduceIte, beq_dec, Int.reduceToNat, Int.reduceLT, Int.reduceLE, Int.reduceAdd, Int.reduceSub, Int.reduceMul, Int.reduceEq, Int.reduceNeg, Int.reduceNe, Int.toNat_natCast, IntKind.signed, IntKind.bits, Int.reducePow, Nat.reducePow, hsl, hsl2]) | refine And.intro (fun hc => (?_ : AW _ _ _ _)) (fun hc => (?_ : AW _ _ _ _)) | simp (disch := omega) only [go_sem, Nat.reduceLT, Nat.reduceAdd, Nat.reduceSub, Nat.reduceMul, Nat.reduceBEq, Nat.reduceEqDiff, Nat.reduceLeDiff, reduceCtorEq, ↓reduceIte, beq_dec, Int.reduceToNat, Int.reduceLT, Int.reduceLE, Int.reduceAdd, Int.reduceSub, Int.reduceMul, Int.reduceEq, Int.reduceNeg, Int.reduceNe, Int.toNat_natCast, IntKind.signed, IntKind.bits, Int.reducePow, Nat.reducePow, hsl, hsl2] | (refine And.intro ?_ ?_; focus (first | (intros; omega) | (intros; simp_all; done))) | refine And.intro (?_ : CallAt _ _ _ _ _ _ _ _) ?_ | fail))
                    refine .mk (i + 1, false) ⟨by omega, fun _ => step_lt (hb0 rfl) hbt, by simp⟩ (by omega) ?_
                    simp (disch := omega) only [go_sem, Nat.reduceLT, Nat.reduceAdd, Nat.reduceSub, Nat.reduceMul, Nat.reduceBEq, Nat.reduceEqDiff, Nat.reduceLeDiff, reduceCtorEq, ↓reduceIte, beq_dec, Int.reduceToNat, Int.reduceLT, Int.reduceLE, Int.reduceAdd, Int.reduceSub, Int.reduceMul, Int.reduceEq, Int.reduceNeg, Int.reduceNe, Int.toNat_natCast, IntKind.signed, IntKind.bits, Int.reducePow, Nat.reducePow, cur_f, Int.natCast_add, Int.natCast_one]
end Go.Proofs.Ytjplkpppjlgheaa

