/-
  Lemmas for the proof: no statement of its own.
-/
import Derived.Test.YtdbkhiobchkjjaaWalkA
set_option linter.unusedVariables false
set_option linter.unusedSimpArgs false
-- P p_21.txt
open Go Go.AL Go.RowKit
namespace Go.Proofs.Ytdbkhiobchkjjaa

theorem mem_rowA (l : List Coin) (is : Coin → Coin → Bool) (i k0 k : Nat) (p : Int × Int) : p ∈ rowA l is i k0 k ↔ ∃ j, j < k ∧ k0 ≤ j ∧ is (nth l i) (nth l j) = true ∧ p = ((i : Int), (j : Int)) := by
  simp only [rowA, List.mem_map, List.mem_filter, List.mem_range, Bool.and_eq_true, decide_eq_true_eq]
  constructor
  · rintro ⟨j, ⟨h1, h2, h3⟩, rfl⟩; exact ⟨j, h1, h2, h3, rfl⟩
  · rintro ⟨j, h1, h2, h3, rfl⟩; exact ⟨j, ⟨h1, h2, h3⟩, rfl⟩
theorem mem_allA (l : List Coin) (is : Coin → Coin → Bool) (st : Bool) (n : Nat) (p : Int × Int) : p ∈ allA l is st n ↔ ∃ i j, i < n ∧ j < l.length ∧ (st = true → i < j) ∧ is (nth l i) (nth l j) = true ∧ p = ((i : Int), (j : Int)) := by
  simp only [allA, List.mem_flatMap, List.mem_range, mem_rowA]
  constructor
  · rintro ⟨i, hi, j, h1, h2, h3, h4⟩
    refine ⟨i, j, hi, h1, fun h => ?_, h3, h4⟩
    subst h; simp at h2; omega
  · rintro ⟨i, j, hi, h1, h2, h3, h4⟩
    refine ⟨i, hi, j, h1, ?_, h3, h4⟩
    cases st
    · simp
    · have := h2 rfl; simp; omega
def seen (A : List (Int × Int)) (n : Nat) (p : Int × Int) : Bool := (A.take n).contains p
theorem seen_succ (A : List (Int × Int)) (n : Nat) (p : Int × Int) (h : n < A.length) : seen A (n + 1) p = (seen A n p || decide (nth A n = p)) := by
  have e : A.take (n + 1) = A.take n ++ [nth A n] := by rw [List.take_succ_eq_append_getElem h, nth_eq A n h]
  simp only [seen, e]
  rw [Bool.eq_iff_iff]
  simp only [List.contains_iff_mem, List.mem_append, List.mem_singleton, Bool.or_eq_true, decide_eq_true_eq]
  exact or_congr Iff.rfl eq_comm
theorem seen_succ' (A : List (Int × Int)) (n : Nat) (x y : Int) (h : n < A.length) : seen A (n + 1) (x, y) = (seen A n (x, y) || (decide ((nth A n).1 = x) && decide ((nth A n).2 = y))) := by
  rw [seen_succ A n _ h, Bool.eq_iff_iff]; simp [Prod.ext_iff]
theorem seen_all (A : List (Int × Int)) (p : Int × Int) : seen A A.length p = decide (p ∈ A) := by
  rw [seen, List.take_length, Bool.eq_iff_iff, List.contains_iff_mem, decide_eq_true_eq]
theorem before_trans {s t u : Coin} {of : Int} (h1 : before s t of = true) (h2 : before t u of = true) : before s u of = true := by
  simp only [before, Bool.and_eq_true, decide_eq_true_eq] at *; omega
theorem before_irrefl (s : Coin) (of : Int) : before s s of = false := by
  cases h : before s s of with
  | false => rfl
  | true => unfold before at h; simp only [Bool.and_eq_true, decide_eq_true_eq] at h; omega
theorem nth_mem' {A : List (Int × Int)} {i : Nat} (h : i < A.length) : nth A i ∈ A := nth_mem A i h
theorem befL_mem {l : List Coin} {of : Int} {p : Int × Int} (h : p ∈ befL l of) : ∃ i j : Nat, i < l.length ∧ j < l.length ∧ before (nth l i) (nth l j) of = true ∧ p = ((i : Int), (j : Int)) := by
  unfold befL at h
  split at h
  · simp at h
  · rw [mem_allA] at h
    obtain ⟨i, j, h1, h2, _, h3, h4⟩ := h
    exact ⟨i, j, h1, h2, h3, h4⟩
theorem befL_trans {l : List Coin} {of : Int} {x y z : Int} (h1 : (x, y) ∈ befL l of) (h2 : (y, z) ∈ befL l of) : (x, z) ∈ befL l of := by
  unfold befL at *
  split at h1
  · simp at h1
  · rename_i hz
    rw [if_neg hz] at h2 ⊢
    rw [mem_allA] at *
    obtain ⟨i, j, a1, a2, _, a3, a4⟩ := h1
    obtain ⟨i', j', b1, b2, _, b3, b4⟩ := h2
    simp at a4 b4
    have : j = i' := by omega
    subst this
    exact ⟨i, j', a1, b2, by simp, before_trans a3 b3, by simp [a4, b4]⟩
theorem tmod2 {n : Int} (h : inK .u8 n) : n.tmod 2 = 0 ∨ n.tmod 2 = 1 := by
  simp [inK, IntKind.min, IntKind.max, IntKind.signed, IntKind.bits] at h
  rw [Int.tmod_eq_emod_of_nonneg h.1]; omega
theorem befE_ok {l : List Coin} {of : Int} (h : of = 0 ∨ of = 1) : befE l of = chk l := by
  unfold befE; grind
set_option maxRecDepth 10000 in
set_option maxHeartbeats 2000000 in
theorem f4 (l : List Coin) (m : Int) (hm : inK .u8 m) : FnR Try.prog 4 [.c (Coins l), .c (.sc (.int .u8 m))] [.c (.B true)] := by
  have hm2 := tmod2 hm
  have hb := befL_len l (m.tmod 2)
  have hm3 : inK .i64 m := by simp [inK, IntKind.min, IntKind.max, IntKind.signed, IntKind.bits] at hm ⊢; omega
  simp [inK, IntKind.min, IntKind.max, IntKind.signed, IntKind.bits] at hm3
  refine fn_walk code4 (by simp) ?_
  generalize hof : m.tmod 2 = of at hm2 hb
  (repeat' (first | refine Sni.mk (fun hc => ?_) ?_ | refine AW_seq ?_ | refine AW_block ?_ | ((first | refine AW_reg ?_ | refine AW_cond ?_ | refine AW_skip ?_ | refine AW_exit ?_ | refine AW_ret ?_ | refine AW_regD (by kernel_rfl) ?_ | refine AW_regX (by kernel_rfl) ?_ | refine CallAtG.t (Eq.refl true) ?_ | refine CallAtG.f (Eq.refl false) ?_ | refine CallAt.mk _ (f10 ..) (by first | (intro h; cases h; done) | (intro _; repeat' (first | exact List.forall_mem_nil _ | trivial | exact two_flat _ | refine List.forall_mem_cons.2 ⟨?_, ?_⟩)) | (intro _; simp [RV.flatP, CD.flatP, maxLen, few, two, hof]; done)) ?_ | refine CallAtG.mk _ (fun _ => f10 ..) ?_ | refine CallDS.mk _ (by simp [RV.data]) (fun _ => f10 ..) (by first | (intro h; cases h; done) | (intro _; repeat' (first | exact List.forall_mem_nil _ | trivial | exact two_flat _ | refine List.forall_mem_cons.2 ⟨?_, ?_⟩)) | (intro _; simp [RV.flatP, CD.flatP, maxLen, few, two, hof]; done)) ?_ | refine CallAt.mk _ (f13 ..) (by first | (intro h; cases h; done) | (intro _; repeat' (first | exact List.forall_mem_nil _ | trivial | exact two_flat _ | refine List.forall_mem_cons.2 ⟨?_, ?_⟩)) | (intro _; simp [RV.flatP, CD.flatP, maxLen, few, two, hof]; done)) ?_ | refine CallAtG.mk _ (fun _ => f13 ..) ?_ | refine CallDS.mk _ (by simp [RV.data]) (fun _ => f13 ..) (by first | (intro h; cases h; done) | (intro _; repeat' (first | exact List.forall_mem_nil _ | trivial | exact two_flat _ | refine List.forall_mem_cons.2 ⟨?_, ?_⟩)) | (intro _; simp [RV.flatP, CD.flatP, maxLen, few, two, hof]; done)) ?_ | refine CallAt.mk _ (f14 ..) (by first | (intro h; cases h; done) | (intro _; repeat' (first | exact List.forall_mem_nil _ | trivial | exact two_flat _ | refine List.forall_mem_cons.2 ⟨?_, ?_⟩)) | (intro _; simp [RV.flatP, CD.flatP, maxLen, few, two, hof]; done)) ?_ | refine CallAtG.mk _ (fun _ => f14 ..) ?_ | refine CallDS.mk _ (by simp [RV.data]) (fun _ => f14 ..) (by first | (intro h; cases h; done) | (intro _; repeat' (first | exact List.forall_mem_nil _ | trivial | exact two_flat _ | refine List.forall_mem_cons.2 ⟨?_, ?_⟩)) | (intro _; simp [RV.flatP, CD.flatP, maxLen, few, two, hof]; done)) ?_ | refine CallAt.mk _ (f15 ..) (by first | (intro h; cases h; done) | (intro _; repeat' (first | exact List.forall_mem_nil _ | trivial | exact two_flat _ | refine List.forall_mem_cons.2 ⟨?_, ?_⟩)) | (intro _; simp [RV.flatP, CD.flatP, maxLen, few, two, hof]; done)) ?_ | refine CallAtG.mk _ (fun _ => f15 ..) ?_ | refine CallDS.mk _ (by simp [RV.data]) (fun _ => f15 ..) (by first | (intro h; cases h; done) | (intro _; repeat' (first | exact List.forall_mem_nil _ | trivial | exact two_flat _ | refine List.forall_mem_cons.2 ⟨?_, ?_⟩)) | (intro _; simp [RV.flatP, CD.flatP, maxLen, few, two, hof]; done)) ?_); try simp (disch := omega) only [go_sem, Nat.reduceLT, Nat.reduceAdd, Nat.reduceSub, Nat.reduceMul, Nat.reduceBEq, Nat.reduceEqDiff, Nat.reduceLeDiff, reduceCtorEq, ↓reduceIte, beq_dec, Int.reduceToNat, Int.reduceLT, Int.reduceLE, Int.reduceAdd, Int.reduceSub, Int.reduceMul, Int.reduceEq, Int.reduceNeg, Int.reduceNe, Int.toNat_natCast, IntKind.signed, IntKind.bits, Int.reducePow, Nat.reducePow, maxLen, few, two, hof]) | refine And.intro (fun hc => (?_ : AW _ _ _ _)) (fun hc => (?_ : AW _ _ _ _)) | simp (disch := omega) only [go_sem, Nat.reduceLT, Nat.reduceAdd, Nat.reduceSub, Nat.reduceMul, Nat.reduceBEq, Nat.reduceEqDiff, Nat.reduceLeDiff, reduceCtorEq, ↓reduceIte, beq_dec, Int.reduceToNat, Int.reduceLT, Int.reduceLE, Int.reduceAdd, Int.reduceSub, Int.reduceMul, Int.reduceEq, Int.reduceNeg, Int.reduceNe, Int.toNat_natCast, IntKind.signed, IntKind.bits, Int.reducePow, Nat.reducePow, maxLen, few, two, hof] | (refine And.intro ?_ ?_; focus (first | (intros; omega) | (intros; simp_all; done))) | refine And.intro (?_ : CallAt _ _ _ _ _ _ _ _) ?_ | refine And.intro (?_ : CallAt _ _ _ _ _ _ _ _ ∧ _) ?_ | fail))
  · rw [befE_ok hm2] at hc
    refine ⟨?_, hc⟩
    have : befL l of = [] := by unfold befL; rw [if_pos (by rw [befE_ok hm2]; exact hc)]
    rw [this]; rfl
  · refine AW_loopK [0, 5] [4, 7, 8, 9, 10, 37, 38, 39, 40, 41, 42, 43, 44, 45, 46, 47, 48, 49, 50, 51, 52, 53, 54, 55, 56, 57, 58, 59, 60, 61, 62, 63, 64, 65, 66, 67, 68, 69, 70, 71, 72, 73, 74, 75, 76, 77, 78, 79, 80, 81, 82, 83, 84, 85, 86, 87, 88, 89, 90, 91, 92, 93, 94, 95, 96, 97, 98, 99, 100, 101, 102, 103, 104, 105, 106, 107, 108, 109, 110, 111, 112, 113, 114, 115, 116, 117, 118, 119, 120, 121, 122, 123, 124, 125, 126, 127, 128, 129, 130, 131, 132, 133] (fun i : Nat => i ≤ (befL l of).length) (fun i => [(7, .I i)]) (fun _ => []) (fun i => (befL l of).length - i) 0 (by omega) ?_ ?_
    · simp (disch := omega) only [go_sem, Nat.reduceLT, Nat.reduceAdd, Nat.reduceSub, Nat.reduceMul, Nat.reduceBEq, Nat.reduceEqDiff, Nat.reduceLeDiff, reduceCtorEq, ↓reduceIte, beq_dec, Int.reduceToNat, Int.reduceLT, Int.reduceLE, Int.reduceAdd, Int.reduceSub, Int.reduceMul, Int.reduceEq, Int.reduceNeg, Int.reduceNe, Int.toNat_natCast, IntKind.signed, IntKind.bits, Int.reducePow, Nat.reducePow, Int.natCast_zero]
    · intro i hi
      (repeat' (first | refine Sni.mk (fun hc => ?_) ?_ | refine AW_seq ?_ | refine AW_block ?_ | ((first | refine AW_reg ?_ | refine AW_cond ?_ | refine AW_skip ?_ | refine AW_exit ?_ | refine AW_ret ?_ | refine AW_regD (by kernel_rfl) ?_ | refine AW_regX (by kernel_rfl) ?_ | refine CallAtG.t (Eq.refl true) ?_ | refine CallAtG.f (Eq.refl false) ?_); try simp (disch := omega) only [go_sem, Nat.reduceLT, Nat.reduceAdd, Nat.reduceSub, Nat.reduceMul, Nat.reduceBEq, Nat.reduceEqDiff, Nat.reduceLeDiff, reduceCtorEq, ↓reduceIte, beq_dec, Int.reduceToNat, Int.reduceLT, Int.reduceLE, Int.reduceAdd, Int.reduceSub, Int.reduceMul, Int.reduceEq, Int.reduceNeg, Int.reduceNe, Int.toNat_natCast, IntKind.signed, IntKind.bits, Int.reducePow, Nat.reducePow, getD_map two, two]) | refine And.intro (fun hc => (?_ : AW _ _ _ _)) (fun hc => (?_ : AW _ _ _ _)) | simp (disch := omega) only [go_sem, Nat.reduceLT, Nat.reduceAdd, Nat.reduceSub, Nat.reduceMul, Nat.reduceBEq, Nat.reduceEqDiff, Nat.reduceLeDiff, reduceCtorEq, ↓reduceIte, beq_dec, Int.reduceToNat, Int.reduceLT, Int.reduceLE, Int.reduceAdd, Int.reduceSub, Int.reduceMul, Int.reduceEq, Int.reduceNeg, Int.reduceNe, Int.toNat_natCast, IntKind.signed, IntKind.bits, Int.reducePow, Nat.reducePow, getD_map two, two] | (refine And.intro ?_ ?_; focus (first | (intros; omega) | (intros; simp_all; done))) | refine And.intro (?_ : CallAt _ _ _ _ _ _ _ _) ?_ | refine And.intro (?_ : CallAt _ _ _ _ _ _ _ _ ∧ _) ?_ | fail))
      · rename_i hlt
        obtain ⟨x, y, h1, h2, h3, h4⟩ := befL_mem (nth_mem' (A := befL l of) (i := i) (by omega))
        have e1 : (nth (befL l of) i).1 = x := by rw [h4]
        have e2 : (nth (befL l of) i).2 = y := by rw [h4]
        rw [e1, e2] at hc
        exfalso
        rcases hc with (((h | h) | h) | h) | h
        · have : x = y := by omega
          subst this
          rw [before_irrefl] at h3; cases h3
        all_goals omega
      · refine AW_loopK [0, 5, 7] [4, 8, 9, 10, 90, 91, 92, 93, 94, 95, 96, 97, 98, 99, 100, 101, 102, 103, 104, 105, 106, 107, 108, 109, 110, 111, 112, 113, 114, 115, 116, 117, 118, 119, 120, 121, 122, 123, 124, 125, 126, 127, 128, 129, 130, 131, 132, 133] (fun k : Nat => k ≤ (befL l of).length) (fun i => [(8, .I i)]) (fun _ => []) (fun i => (befL l of).length - i) 0 (by omega) ?_ ?_
        · simp (disch := omega) only [go_sem, Nat.reduceLT, Nat.reduceAdd, Nat.reduceSub, Nat.reduceMul, Nat.reduceBEq, Nat.reduceEqDiff, Nat.reduceLeDiff, reduceCtorEq, ↓reduceIte, beq_dec, Int.reduceToNat, Int.reduceLT, Int.reduceLE, Int.reduceAdd, Int.reduceSub, Int.reduceMul, Int.reduceEq, Int.reduceNeg, Int.reduceNe, Int.toNat_natCast, IntKind.signed, IntKind.bits, Int.reducePow, Nat.reducePow, Int.natCast_zero]
        · intro k hk
          (repeat' (first | refine Sni.mk (fun hc => ?_) ?_ | refine AW_seq ?_ | refine AW_block ?_ | ((first | refine AW_reg ?_ | refine AW_cond ?_ | refine AW_skip ?_ | refine AW_exit ?_ | refine AW_ret ?_ | refine AW_regD (by kernel_rfl) ?_ | refine AW_regX (by kernel_rfl) ?_ | refine CallAtG.t (Eq.refl true) ?_ | refine CallAtG.f (Eq.refl false) ?_); try simp (disch := omega) only [go_sem, Nat.reduceLT, Nat.reduceAdd, Nat.reduceSub, Nat.reduceMul, Nat.reduceBEq, Nat.reduceEqDiff, Nat.reduceLeDiff, reduceCtorEq, ↓reduceIte, beq_dec, Int.reduceToNat, Int.reduceLT, Int.reduceLE, Int.reduceAdd, Int.reduceSub, Int.reduceMul, Int.reduceEq, Int.reduceNeg, Int.reduceNe, Int.toNat_natCast, IntKind.signed, IntKind.bits, Int.reducePow, Nat.reducePow, getD_map two, two]) | refine And.intro (fun hc => (?_ : AW _ _ _ _)) (fun hc => (?_ : AW _ _ _ _)) | simp (disch := omega) only [go_sem, Nat.reduceLT, Nat.reduceAdd, Nat.reduceSub, Nat.reduceMul, Nat.reduceBEq, Nat.reduceEqDiff, Nat.reduceLeDiff, reduceCtorEq, ↓reduceIte, beq_dec, Int.reduceToNat, Int.reduceLT, Int.reduceLE, Int.reduceAdd, Int.reduceSub, Int.reduceMul, Int.reduceEq, Int.reduceNeg, Int.reduceNe, Int.toNat_natCast, IntKind.signed, IntKind.bits, Int.reducePow, Nat.reducePow, getD_map two, two] | (refine And.intro ?_ ?_; focus (first | (intros; omega) | (intros; simp_all; done))) | refine And.intro (?_ : CallAt _ _ _ _ _ _ _ _) ?_ | refine And.intro (?_ : CallAt _ _ _ _ _ _ _ _ ∧ _) ?_ | fail))
          · refine .mk (k + 1) (by omega) (by omega) ?_
            simp (disch := omega) only [go_sem, Nat.reduceLT, Nat.reduceAdd, Nat.reduceSub, Nat.reduceMul, Nat.reduceBEq, Nat.reduceEqDiff, Nat.reduceLeDiff, reduceCtorEq, ↓reduceIte, beq_dec, Int.reduceToNat, Int.reduceLT, Int.reduceLE, Int.reduceAdd, Int.reduceSub, Int.reduceMul, Int.reduceEq, Int.reduceNeg, Int.reduceNe, Int.toNat_natCast, IntKind.signed, IntKind.bits, Int.reducePow, Nat.reducePow, Int.natCast_add, Int.natCast_one]
          · refine AW_loopK [0, 5, 7, 8] [9, 10, 107, 108, 109, 110, 111, 112, 113, 114, 115, 116, 117, 118, 119, 120, 121, 122, 123, 124, 125, 126, 127, 128, 129, 130, 131] (fun j : Nat => j ≤ (befL l of).length) (fun j => [(10, .I j), (9, .B (seen (befL l of) j ((nth (befL l of) i).1, (nth (befL l of) k).2)))]) (fun _ => []) (fun i => (befL l of).length - i) 0 (by omega) ?_ ?_
            · simp (disch := omega) only [go_sem, Nat.reduceLT, Nat.reduceAdd, Nat.reduceSub, Nat.reduceMul, Nat.reduceBEq, Nat.reduceEqDiff, Nat.reduceLeDiff, reduceCtorEq, ↓reduceIte, beq_dec, Int.reduceToNat, Int.reduceLT, Int.reduceLE, Int.reduceAdd, Int.reduceSub, Int.reduceMul, Int.reduceEq, Int.reduceNeg, Int.reduceNe, Int.toNat_natCast, IntKind.signed, IntKind.bits, Int.reducePow, Nat.reducePow, Int.natCast_zero, seen, List.take_zero, List.contains_nil]
            · intro j hj
              (repeat' (first | refine Sni.mk (fun hc => ?_) ?_ | refine AW_seq ?_ | refine AW_block ?_ | ((first | refine AW_reg ?_ | refine AW_cond ?_ | refine AW_skip ?_ | refine AW_exit ?_ | refine AW_ret ?_ | refine AW_regD (by kernel_rfl) ?_ | refine AW_regX (by kernel_rfl) ?_ | refine CallAtG.t (Eq.refl true) ?_ | refine CallAtG.f (Eq.refl false) ?_); try simp (disch := omega) only [go_sem, Nat.reduceLT, Nat.reduceAdd, Nat.reduceSub, Nat.reduceMul, Nat.reduceBEq, Nat.reduceEqDiff, Nat.reduceLeDiff, reduceCtorEq, ↓reduceIte, beq_dec, Int.reduceToNat, Int.reduceLT, Int.reduceLE, Int.reduceAdd, Int.reduceSub, Int.reduceMul, Int.reduceEq, Int.reduceNeg, Int.reduceNe, Int.toNat_natCast, IntKind.signed, IntKind.bits, Int.reducePow, Nat.reducePow, getD_map two, two]) | refine And.intro (fun hc => (?_ : AW _ _ _ _)) (fun hc => (?_ : AW _ _ _ _)) | simp (disch := omega) only [go_sem, Nat.reduceLT, Nat.reduceAdd, Nat.reduceSub, Nat.reduceMul, Nat.reduceBEq, Nat.reduceEqDiff, Nat.reduceLeDiff, reduceCtorEq, ↓reduceIte, beq_dec, Int.reduceToNat, Int.reduceLT, Int.reduceLE, Int.reduceAdd, Int.reduceSub, Int.reduceMul, Int.reduceEq, Int.reduceNeg, Int.reduceNe, Int.toNat_natCast, IntKind.signed, IntKind.bits, Int.reducePow, Nat.reducePow, getD_map two, two] | (refine And.intro ?_ ?_; focus (first | (intros; omega) | (intros; simp_all; done))) | refine And.intro (?_ : CallAt _ _ _ _ _ _ _ _) ?_ | refine And.intro (?_ : CallAt _ _ _ _ _ _ _ _ ∧ _) ?_ | fail))
              · refine .mk (j + 1) (by omega) (by omega) ?_
                rw [seen_succ' _ _ _ _ (by omega)]
                simp (disch := omega) only [go_sem, Nat.reduceLT, Nat.reduceAdd, Nat.reduceSub, Nat.reduceMul, Nat.reduceBEq, Nat.reduceEqDiff, Nat.reduceLeDiff, reduceCtorEq, ↓reduceIte, beq_dec, Int.reduceToNat, Int.reduceLT, Int.reduceLE, Int.reduceAdd, Int.reduceSub, Int.reduceMul, Int.reduceEq, Int.reduceNeg, Int.reduceNe, Int.toNat_natCast, IntKind.signed, IntKind.bits, Int.reducePow, Nat.reducePow, Int.natCast_add, Int.natCast_one]
              · have hj2 : j = (befL l of).length := by omega
                subst hj2
                rw [seen_all, decide_eq_false_iff_not] at hc
                apply hc
                rename_i he _
                have h1 : ((nth (befL l of) i).1, (nth (befL l of) i).2) ∈ befL l of := nth_mem' (by omega)
                have h2 : ((nth (befL l of) k).1, (nth (befL l of) k).2) ∈ befL l of := nth_mem' (by omega)
                rw [he] at h2
                exact befL_trans h1 h2
              · refine .mk (k + 1) (by omega) (by omega) ?_
                simp (disch := omega) only [go_sem, Nat.reduceLT, Nat.reduceAdd, Nat.reduceSub, Nat.reduceMul, Nat.reduceBEq, Nat.reduceEqDiff, Nat.reduceLeDiff, reduceCtorEq, ↓reduceIte, beq_dec, Int.reduceToNat, Int.reduceLT, Int.reduceLE, Int.reduceAdd, Int.reduceSub, Int.reduceMul, Int.reduceEq, Int.reduceNeg, Int.reduceNe, Int.toNat_natCast, IntKind.signed, IntKind.bits, Int.reducePow, Nat.reducePow, Int.natCast_add, Int.natCast_one]
          · refine .mk (i + 1) (by omega) (by omega) ?_
            simp (disch := omega) only [go_sem, Nat.reduceLT, Nat.reduceAdd, Nat.reduceSub, Nat.reduceMul, Nat.reduceBEq, Nat.reduceEqDiff, Nat.reduceLeDiff, reduceCtorEq, ↓reduceIte, beq_dec, Int.reduceToNat, Int.reduceLT, Int.reduceLE, Int.reduceAdd, Int.reduceSub, Int.reduceMul, Int.reduceEq, Int.reduceNeg, Int.reduceNe, Int.toNat_natCast, IntKind.signed, IntKind.bits, Int.reducePow, Nat.reducePow, Int.natCast_add, Int.natCast_one]
end Go.Proofs.Ytdbkhiobchkjjaa

-- P p_21.txt
open Go Go.AL Go.RowKit
namespace Go.Proofs.Ytdbkhiobchkjjaa

theorem len_one {α : Type} (L : List α) (a : α) : (L ++ [a]).length = L.length + 1 := by simp
theorem chk_valid {l : List Coin} (h : chk l = 0) (i : Nat) (hi : i < l.length) : validS (nth l i) = true := by
  unfold chk at h
  split at h
  · cases h
  · split at h
    · rename_i ha
      rw [List.all_eq_true] at ha
      exact ha _ (nth_mem l i hi)
    · cases h
theorem rowA_mid (l : List Coin) (is : Coin → Coin → Bool) (i k0 j : Nat) (hj : k0 ≤ j) : ∀ m, ∃ R, rowA l is i k0 (j + 1 + m) = rowA l is i k0 j ++ ((if is (nth l i) (nth l j) then [((i : Int), (j : Int))] else []) ++ R)
  | 0 => ⟨[], by rw [Nat.add_zero, rowA_succ _ _ _ _ _ hj]; simp⟩
  | m + 1 => by
    obtain ⟨R, h⟩ := rowA_mid l is i k0 j hj m
    rw [← Nat.add_assoc, rowA_succ _ _ _ _ _ (by omega), h]
    exact ⟨R ++ _, by simp only [List.append_assoc]; rfl⟩
theorem allA_mid (l : List Coin) (is : Coin → Coin → Bool) (i : Nat) : ∀ m, ∃ R, allA l is true (i + 1 + m) = allA l is true i ++ (rowA l is i (i + 1) l.length ++ R)
  | 0 => ⟨[], by rw [Nat.add_zero, allA_succ]; simp⟩
  | m + 1 => by
    obtain ⟨R, h⟩ := allA_mid l is i m
    rw [← Nat.add_assoc, allA_succ, h]
    exact ⟨R ++ _, by simp only [List.append_assoc]; rfl⟩
theorem allA_split (l : List Coin) (is : Coin → Coin → Bool) (i j : Nat) (hi : i < j) (hj : j < l.length) : ∃ R, allA l is true l.length = (allA l is true i ++ rowA l is i (i + 1) j) ++ ((if is (nth l i) (nth l j) then [((i : Int), (j : Int))] else []) ++ R) := by
  obtain ⟨R, h⟩ := allA_mid l is i (l.length - (i + 1))
  obtain ⟨R', h'⟩ := rowA_mid l is i (i + 1) j (by omega) (l.length - (j + 1))
  rw [show i + 1 + (l.length - (i + 1)) = l.length by omega] at h
  rw [show j + 1 + (l.length - (j + 1)) = l.length by omega] at h'
  rw [h, h']
  exact ⟨R' ++ R, by simp only [List.append_assoc]⟩
/-- the place to come next is that of two specimens exactly if they are a pair -/
theorem next_pair (l : List Coin) (is : Coin → Coin → Bool) (i j : Nat) (hi : i < j) (hj : j < l.length) :
    (decide (((allA l is true i ++ rowA l is i (i + 1) j).length : Nat) < (allA l is true l.length).length) && decide (nth (allA l is true l.length) (allA l is true i ++ rowA l is i (i + 1) j).length = ((i : Int), (j : Int)))) = is (nth l i) (nth l j) := by
  obtain ⟨R, h⟩ := allA_split l is i j hi hj
  generalize hp : allA l is true i ++ rowA l is i (i + 1) j = pre at *
  cases hc : is (nth l i) (nth l j) with
  | true =>
    rw [hc] at h
    simp only [if_true] at h
    rw [h]
    simp [nth, List.getD]
  | false =>
    rw [Bool.and_eq_false_iff]
    by_cases hl : pre.length < (allA l is true l.length).length
    · right
      rw [decide_eq_false_iff_not]
      intro he
      have := nth_mem (allA l is true l.length) _ hl
      rw [he, mem_allA] at this
      obtain ⟨i', j', _, _, _, h3, h4⟩ := this
      simp at h4
      have e1 : i = i' := by omega
      have e2 : j = j' := by omega
      subst e1; subst e2
      rw [hc] at h3; cases h3
    · left; simpa using hl
theorem clash_bef2 (s t : Coin) : clash s t = (bef2 s t && bef2 t s) := by
  unfold clash bef2 before; grind
theorem advRef3 {s t : Coin} (h1 : validS s = true) (h2 : validS t = true) : (advRef s t = 3) ↔ (bef2 s t && bef2 t s) = true := by
  unfold advRef bef2 before sideD
  simp only [h1, h2]
  grind
theorem seen_bef2 {l : List Coin} (h : chk l = 0) (i j : Nat) (hi : i < l.length) (hj : j < l.length) : seen (clL l bef2 false) (clL l bef2 false).length ((i : Int), (j : Int)) = bef2 (nth l i) (nth l j) := by
  rw [seen_all, Bool.eq_iff_iff, decide_eq_true_eq]
  unfold clL
  rw [if_neg (by omega), mem_allA]
  constructor
  · rintro ⟨i', j', h1, h2, _, h3, h4⟩
    simp at h4
    have e1 : i = i' := by omega
    have e2 : j = j' := by omega
    subst e1; subst e2; exact h3
  · intro h3; exact ⟨i, j, hi, hj, by simp, h3, rfl⟩
set_option maxRecDepth 10000 in
set_option maxHeartbeats 4000000 in
theorem f6 (l : List Coin) : FnR Try.prog 6 [.c (Coins l)] [.c (.B true)] := by
  have hb1 := clL_len l clash true
  have hb2 := clL_len l bef2 false
  refine fn_walk code6 (by simp) ?_
  (repeat' (first | refine Sni.mk (fun hc => ?_) ?_ | refine AW_seq ?_ | refine AW_block ?_ | ((first | refine AW_reg ?_ | refine AW_cond ?_ | refine AW_skip ?_ | refine AW_exit ?_ | refine AW_ret ?_ | refine AW_regD (by kernel_rfl) ?_ | refine AW_regX (by kernel_rfl) ?_ | refine CallAtG.t (Eq.refl true) ?_ | refine CallAtG.f (Eq.refl false) ?_ | refine CallAt.mk _ (f10 ..) (by first | (intro h; cases h; done) | (intro _; repeat' (first | exact List.forall_mem_nil _ | trivial | exact two_flat _ | refine List.forall_mem_cons.2 ⟨?_, ?_⟩)) | (intro _; simp [RV.flatP, CD.flatP, maxLen, few, two]; done)) ?_ | refine CallAtG.mk _ (fun _ => f10 ..) ?_ | refine CallDS.mk _ (by simp [RV.data]) (fun _ => f10 ..) (by first | (intro h; cases h; done) | (intro _; repeat' (first | exact List.forall_mem_nil _ | trivial | exact two_flat _ | refine List.forall_mem_cons.2 ⟨?_, ?_⟩)) | (intro _; simp [RV.flatP, CD.flatP, maxLen, few, two]; done)) ?_ | refine CallAt.mk _ (f13 ..) (by first | (intro h; cases h; done) | (intro _; repeat' (first | exact List.forall_mem_nil _ | trivial | exact two_flat _ | refine List.forall_mem_cons.2 ⟨?_, ?_⟩)) | (intro _; simp [RV.flatP, CD.flatP, maxLen, few, two]; done)) ?_ | refine CallAtG.mk _ (fun _ => f13 ..) ?_ | refine CallDS.mk _ (by simp [RV.data]) (fun _ => f13 ..) (by first | (intro h; cases h; done) | (intro _; repeat' (first | exact List.forall_mem_nil _ | trivial | exact two_flat _ | refine List.forall_mem_cons.2 ⟨?_, ?_⟩)) | (intro _; simp [RV.flatP, CD.flatP, maxLen, few, two]; done)) ?_ | refine CallAt.mk _ (f21' ..) (by first | (intro h; cases h; done) | (intro _; repeat' (first | exact List.forall_mem_nil _ | trivial | exact two_flat _ | refine List.forall_mem_cons.2 ⟨?_, ?_⟩)) | (intro _; simp [RV.flatP, CD.flatP, maxLen, few, two]; done)) ?_ | refine CallAtG.mk _ (fun _ => f21' ..) ?_ | refine CallDS.mk _ (by simp [RV.data]) (fun _ => f21' ..) (by first | (intro h; cases h; done) | (intro _; repeat' (first | exact List.forall_mem_nil _ | trivial | exact two_flat _ | refine List.forall_mem_cons.2 ⟨?_, ?_⟩)) | (intro _; simp [RV.flatP, CD.flatP, maxLen, few, two]; done)) ?_ | refine CallAt.mk _ (f16' ..) (by first | (intro h; cases h; done) | (intro _; repeat' (first | exact List.forall_mem_nil _ | trivial | exact two_flat _ | refine List.forall_mem_cons.2 ⟨?_, ?_⟩)) | (intro _; simp [RV.flatP, CD.flatP, maxLen, few, two]; done)) ?_ | refine CallAtG.mk _ (fun _ => f16' ..) ?_ | refine CallDS.mk _ (by simp [RV.data]) (fun _ => f16' ..) (by first | (intro h; cases h; done) | (intro _; repeat' (first | exact List.forall_mem_nil _ | trivial | exact two_flat _ | refine List.forall_mem_cons.2 ⟨?_, ?_⟩)) | (intro _; simp [RV.flatP, CD.flatP, maxLen, few, two]; done)) ?_ | refine CallAt.mk _ (f11 ..) (by first | (intro h; cases h; done) | (intro _; repeat' (first | exact List.forall_mem_nil _ | trivial | exact two_flat _ | refine List.forall_mem_cons.2 ⟨?_, ?_⟩)) | (intro _; simp [RV.flatP, CD.flatP, maxLen, few, two]; done)) ?_ | refine CallAtG.mk _ (fun _ => f11 ..) ?_ | refine CallDS.mk _ (by simp [RV.data]) (fun _ => f11 ..) (by first | (intro h; cases h; done) | (intro _; repeat' (first | exact List.forall_mem_nil _ | trivial | exact two_flat _ | refine List.forall_mem_cons.2 ⟨?_, ?_⟩)) | (intro _; simp [RV.flatP, CD.flatP, maxLen, few, two]; done)) ?_); try simp (disch := omega) only [go_sem, Nat.reduceLT, Nat.reduceAdd, Nat.reduceSub, Nat.reduceMul, Nat.reduceBEq, Nat.reduceEqDiff, Nat.reduceLeDiff, reduceCtorEq, ↓reduceIte, beq_dec, Int.reduceToNat, Int.reduceLT, Int.reduceLE, Int.reduceAdd, Int.reduceSub, Int.reduceMul, Int.reduceEq, Int.reduceNeg, Int.reduceNe, Int.toNat_natCast, IntKind.signed, IntKind.bits, Int.reducePow, Nat.reducePow, maxLen, few, two]) | refine And.intro (fun hc => (?_ : AW _ _ _ _)) (fun hc => (?_ : AW _ _ _ _)) | simp (disch := omega) only [go_sem, Nat.reduceLT, Nat.reduceAdd, Nat.reduceSub, Nat.reduceMul, Nat.reduceBEq, Nat.reduceEqDiff, Nat.reduceLeDiff, reduceCtorEq, ↓reduceIte, beq_dec, Int.reduceToNat, Int.reduceLT, Int.reduceLE, Int.reduceAdd, Int.reduceSub, Int.reduceMul, Int.reduceEq, Int.reduceNeg, Int.reduceNe, Int.toNat_natCast, IntKind.signed, IntKind.bits, Int.reducePow, Nat.reducePow, maxLen, few, two] | (refine And.intro ?_ ?_; focus (first | (intros; omega) | (intros; simp_all; done))) | refine And.intro (?_ : CallAt _ _ _ _ _ _ _ _) ?_ | refine And.intro (?_ : CallAt _ _ _ _ _ _ _ _ ∧ _) ?_ | fail))
  · have h1 : clL l clash true = [] := by unfold clL; rw [if_pos hc]
    have h2 : clL l bef2 false = [] := by unfold clL; rw [if_pos hc]
    rw [h1, h2]; simp
  · have h0 := hc; clear hc
    have hl := chk_len h0
    have hC : clL l clash true = allA l clash true l.length := by unfold clL; rw [if_neg (by omega)]
    rw [hC] at hb1 ⊢
    refine AW_loopK [0, 3, 5] [2, 7, 8, 9, 10, 11, 12, 13, 51, 52, 53, 54, 55, 56, 57, 58, 59, 60, 61, 62, 63, 64, 65, 66, 67, 68, 69, 70, 71, 72, 73, 74, 75, 76, 77, 78, 79, 80, 81, 82, 83, 84, 85, 86, 87, 88, 89, 90, 91, 92, 93, 94, 95, 96, 97, 98, 99, 100, 101, 102, 103, 104, 105, 106, 107, 108, 109, 110, 111, 112, 113, 114, 115, 116, 117, 118, 119, 120, 121, 122, 123, 124, 125, 126, 127, 128, 129] (fun i : Nat => i ≤ l.length) (fun i => [(8, .I i), (7, .I (allA l clash true i).length)]) (fun _ => []) (fun i => l.length - i) 0 (by omega) ?_ ?_
    · simp (disch := omega) only [go_sem, Nat.reduceLT, Nat.reduceAdd, Nat.reduceSub, Nat.reduceMul, Nat.reduceBEq, Nat.reduceEqDiff, Nat.reduceLeDiff, reduceCtorEq, ↓reduceIte, beq_dec, Int.reduceToNat, Int.reduceLT, Int.reduceLE, Int.reduceAdd, Int.reduceSub, Int.reduceMul, Int.reduceEq, Int.reduceNeg, Int.reduceNe, Int.toNat_natCast, IntKind.signed, IntKind.bits, Int.reducePow, Nat.reducePow, Int.natCast_zero, allA, List.range_zero, List.flatMap_nil]
    · intro i hi
      (repeat' (first | refine Sni.mk (fun hc => ?_) ?_ | refine AW_seq ?_ | refine AW_block ?_ | ((first | refine AW_reg ?_ | refine AW_cond ?_ | refine AW_skip ?_ | refine AW_exit ?_ | refine AW_ret ?_ | refine AW_regD (by kernel_rfl) ?_ | refine AW_regX (by kernel_rfl) ?_ | refine CallAtG.t (Eq.refl true) ?_ | refine CallAtG.f (Eq.refl false) ?_); try simp (disch := omega) only [go_sem, Nat.reduceLT, Nat.reduceAdd, Nat.reduceSub, Nat.reduceMul, Nat.reduceBEq, Nat.reduceEqDiff, Nat.reduceLeDiff, reduceCtorEq, ↓reduceIte, beq_dec, Int.reduceToNat, Int.reduceLT, Int.reduceLE, Int.reduceAdd, Int.reduceSub, Int.reduceMul, Int.reduceEq, Int.reduceNeg, Int.reduceNe, Int.toNat_natCast, IntKind.signed, IntKind.bits, Int.reducePow, Nat.reducePow]) | refine And.intro (fun hc => (?_ : AW _ _ _ _)) (fun hc => (?_ : AW _ _ _ _)) | simp (disch := omega) only [go_sem, Nat.reduceLT, Nat.reduceAdd, Nat.reduceSub, Nat.reduceMul, Nat.reduceBEq, Nat.reduceEqDiff, Nat.reduceLeDiff, reduceCtorEq, ↓reduceIte, beq_dec, Int.reduceToNat, Int.reduceLT, Int.reduceLE, Int.reduceAdd, Int.reduceSub, Int.reduceMul, Int.reduceEq, Int.reduceNeg, Int.reduceNe, Int.toNat_natCast, IntKind.signed, IntKind.bits, Int.reducePow, Nat.reducePow] | (refine And.intro ?_ ?_; focus (first | (intros; omega) | (intros; simp_all; done))) | refine And.intro (?_ : CallAt _ _ _ _ _ _ _ _) ?_ | refine And.intro (?_ : CallAt _ _ _ _ _ _ _ _ ∧ _) ?_ | fail))
      · refine AW_loopK [0, 3, 5, 8] [2, 7, 9, 10, 11, 12, 13, 59, 60, 61, 62, 63, 64, 65, 66, 67, 68, 69, 70, 71, 72, 73, 74, 75, 76, 77, 78, 79, 80, 81, 82, 83, 84, 85, 86, 87, 88, 89, 90, 91, 92, 93, 94, 95, 96, 97, 98, 99, 100, 101, 102, 103, 104, 105, 106, 107, 108, 109, 110, 111, 112, 113, 114, 115, 116, 117, 118, 119, 120, 121, 122, 123, 124, 125, 126, 127, 128, 129] (fun j : Nat => i < j ∧ j ≤ l.length) (fun j => [(9, .I j), (7, .I (allA l clash true i ++ rowA l clash i (i + 1) j).length)]) (fun _ => []) (fun j => l.length - j) (i + 1) (by omega) ?_ ?_
        · simp (disch := omega) only [go_sem, Nat.reduceLT, Nat.reduceAdd, Nat.reduceSub, Nat.reduceMul, Nat.reduceBEq, Nat.reduceEqDiff, Nat.reduceLeDiff, reduceCtorEq, ↓reduceIte, beq_dec, Int.reduceToNat, Int.reduceLT, Int.reduceLE, Int.reduceAdd, Int.reduceSub, Int.reduceMul, Int.reduceEq, Int.reduceNeg, Int.reduceNe, Int.toNat_natCast, IntKind.signed, IntKind.bits, Int.reducePow, Nat.reducePow, Int.natCast_add, Int.natCast_one, rowA_start]
        · rintro j ⟨hij, hj⟩
          have hk := allA_len l clash true i
          have hk2 := rowA_len l clash i (i + 1) j
          have hk3 : i * l.length ≤ 64 * 64 := Nat.mul_le_mul (by omega) hl
          have hk4 : (allA l clash true i ++ rowA l clash i (i + 1) j).length ≤ 8192 := by rw [List.length_append]; omega
          have hkc : ((allA l clash true i ++ rowA l clash i (i + 1) j).length : Int) < (allA l clash true l.length).length ↔ (allA l clash true i ++ rowA l clash i (i + 1) j).length < (allA l clash true l.length).length := by omega
          have fin : j < l.length → ∀ kk : Int, kk = (allA l clash true i ++ rowA l clash i (i + 1) (j + 1)).length → AW Try.prog c6_40 (blockQ 4
              (seqQ Try.prog c6_47
                (blockQ 3
                  (seqQ Try.prog c6_53
                    (roundQ (fun j => i < j ∧ j ≤ l.length)
                      (fun j =>
                        { n := 134,
                          tm :=
                            [(9, AV.I ↑j), (7, AV.I ↑(allA l clash true i ++ rowA l clash i (i + 1) j).length),
                              (0, AV.c (Coins l)), (3, AV.own 24), (5, AV.own 29), (8, AV.I ↑i)],
                          ob :=
                            [(29, AO.arr 35 2 (List.map two (clL l bef2 false))),
                              (24, AO.arr 45 2 (List.map two (allA l clash true l.length)))] })
                      (fun j => l.length - j) j
                      (blockQ 2
                        (blockQ 1
                          (seqQ Try.prog c6_60
                            (roundQ (fun i => i ≤ l.length)
                              (fun j =>
                                { n := 134,
                                  tm :=
                                    [(8, AV.I ↑j), (7, AV.I ↑(allA l clash true j).length), (0, AV.c (Coins l)), (3, AV.own 24),
                                      (5, AV.own 29)],
                                  ob :=
                                    [(29, AO.arr 35 2 (List.map two (clL l bef2 false))),
                                      (24, AO.arr 45 2 (List.map two (allA l clash true l.length)))] })
                              (fun j => l.length - j) i (blockQ 0 (seqQ Try.prog c6_67 (retQ [2] [RV.c (CD.B true)]))))))))))))
              ⟨134, [(0, .c (Coins l)), (3, .own 24), (5, .own 29), (7, .I kk), (8, .I i), (9, .I j), (10, .B (clash (nth l i) (nth l j))), (11, .B false), (12, .B false), (13, .I 0)], [(29, AO.arr 35 2 (List.map two (clL l bef2 false))), (24, AO.arr 45 2 (List.map two (allA l clash true l.length)))]⟩ := by
            intro hjl kk hkk
            have hv1 := chk_valid h0 i (by omega)
            have hv2 := chk_valid h0 j (by omega)
            have ha := advRef3 hv1 hv2
            have hc3 := clash_bef2 (nth l i) (nth l j)
            refine AW_loopK [0, 3, 5, 7, 8, 9, 10] [11, 12, 13, 82, 83, 84, 85, 86, 87, 88, 89, 90, 91, 92, 93, 94, 95, 96, 97, 98, 99, 100, 101, 102, 103, 104, 105, 106, 107, 108, 109] (fun n : Nat => n ≤ (clL l bef2 false).length) (fun n => [(13, .I n), (11, .B (seen (clL l bef2 false) n ((i : Int), (j : Int)))), (12, .B (seen (clL l bef2 false) n ((j : Int), (i : Int))))]) (fun _ => []) (fun n => (clL l bef2 false).length - n) 0 (by omega) ?_ ?_
            · simp (disch := omega) only [go_sem, Nat.reduceLT, Nat.reduceAdd, Nat.reduceSub, Nat.reduceMul, Nat.reduceBEq, Nat.reduceEqDiff, Nat.reduceLeDiff, reduceCtorEq, ↓reduceIte, beq_dec, Int.reduceToNat, Int.reduceLT, Int.reduceLE, Int.reduceAdd, Int.reduceSub, Int.reduceMul, Int.reduceEq, Int.reduceNeg, Int.reduceNe, Int.toNat_natCast, IntKind.signed, IntKind.bits, Int.reducePow, Nat.reducePow, Int.natCast_zero, seen, List.take_zero, List.contains_nil]
            · intro n hn
              (repeat' (first | refine Sni.mk (fun hc => ?_) ?_ | refine AW_seq ?_ | refine AW_block ?_ | ((first | refine AW_reg ?_ | refine AW_cond ?_ | refine AW_skip ?_ | refine AW_exit ?_ | refine AW_ret ?_ | refine AW_regD (by kernel_rfl) ?_ | refine AW_regX (by kernel_rfl) ?_ | refine CallAtG.t (Eq.refl true) ?_ | refine CallAtG.f (Eq.refl false) ?_ | refine CallAt.mk _ (f11 ..) (by first | (intro h; cases h; done) | (intro _; repeat' (first | exact List.forall_mem_nil _ | trivial | refine List.forall_mem_cons.2 ⟨?_, ?_⟩)) | (intro _; simp [RV.flatP, CD.flatP, getD_map two, two, getD_map Coin.cd, Coin.cd]; done)) ?_ | refine CallAtG.mk _ (fun _ => f11 ..) ?_ | refine CallDS.mk _ (by simp [RV.data]) (fun _ => f11 ..) (by first | (intro h; cases h; done) | (intro _; repeat' (first | exact List.forall_mem_nil _ | trivial | refine List.forall_mem_cons.2 ⟨?_, ?_⟩)) | (intro _; simp [RV.flatP, CD.flatP, getD_map two, two, getD_map Coin.cd, Coin.cd]; done)) ?_); try simp (disch := omega) only [go_sem, Nat.reduceLT, Nat.reduceAdd, Nat.reduceSub, Nat.reduceMul, Nat.reduceBEq, Nat.reduceEqDiff, Nat.reduceLeDiff, reduceCtorEq, ↓reduceIte, beq_dec, Int.reduceToNat, Int.reduceLT, Int.reduceLE, Int.reduceAdd, Int.reduceSub, Int.reduceMul, Int.reduceEq, Int.reduceNeg, Int.reduceNe, Int.toNat_natCast, IntKind.signed, IntKind.bits, Int.reducePow, Nat.reducePow, getD_map two, two, getD_map Coin.cd, Coin.cd]) | refine And.intro (fun hc => (?_ : AW _ _ _ _)) (fun hc => (?_ : AW _ _ _ _)) | simp (disch := omega) only [go_sem, Nat.reduceLT, Nat.reduceAdd, Nat.reduceSub, Nat.reduceMul, Nat.reduceBEq, Nat.reduceEqDiff, Nat.reduceLeDiff, reduceCtorEq, ↓reduceIte, beq_dec, Int.reduceToNat, Int.reduceLT, Int.reduceLE, Int.reduceAdd, Int.reduceSub, Int.reduceMul, Int.reduceEq, Int.reduceNeg, Int.reduceNe, Int.toNat_natCast, IntKind.signed, IntKind.bits, Int.reducePow, Nat.reducePow, getD_map two, two, getD_map Coin.cd, Coin.cd] | (refine And.intro ?_ ?_; focus (first | (intros; omega) | (intros; simp_all; done))) | refine And.intro (?_ : CallAt _ _ _ _ _ _ _ _) ?_ | refine And.intro (?_ : CallAt _ _ _ _ _ _ _ _ ∧ _) ?_ | fail))
              · refine .mk (n + 1) (by omega) (by omega) ?_
                rw [seen_succ' _ _ _ _ (by omega), seen_succ' _ _ _ _ (by omega)]
                simp (disch := omega) only [go_sem, Nat.reduceLT, Nat.reduceAdd, Nat.reduceSub, Nat.reduceMul, Nat.reduceBEq, Nat.reduceEqDiff, Nat.reduceLeDiff, reduceCtorEq, ↓reduceIte, beq_dec, Int.reduceToNat, Int.reduceLT, Int.reduceLE, Int.reduceAdd, Int.reduceSub, Int.reduceMul, Int.reduceEq, Int.reduceNeg, Int.reduceNe, Int.toNat_natCast, IntKind.signed, IntKind.bits, Int.reducePow, Nat.reducePow, Int.natCast_add, Int.natCast_one]
              · have hne : n = (clL l bef2 false).length := by omega
                subst hne
                rw [seen_bef2 h0 i j (by omega) (by omega), seen_bef2 h0 j i (by omega) (by omega)] at hc
                exfalso
                grind
              · refine .mk (j + 1) (by omega) (by omega) ?_
                simp (disch := omega) only [go_sem, Nat.reduceLT, Nat.reduceAdd, Nat.reduceSub, Nat.reduceMul, Nat.reduceBEq, Nat.reduceEqDiff, Nat.reduceLeDiff, reduceCtorEq, ↓reduceIte, beq_dec, Int.reduceToNat, Int.reduceLT, Int.reduceLE, Int.reduceAdd, Int.reduceSub, Int.reduceMul, Int.reduceEq, Int.reduceNeg, Int.reduceNe, Int.toNat_natCast, IntKind.signed, IntKind.bits, Int.reducePow, Nat.reducePow, Int.natCast_add, Int.natCast_one, hkk]
          have hnp := fun h => next_pair l clash i j hij h
          by_cases hkl : (allA l clash true i ++ rowA l clash i (i + 1) j).length < (allA l clash true l.length).length
          · have hkd : decide (((allA l clash true i ++ rowA l clash i (i + 1) j).length : Int) < (allA l clash true l.length).length) = true := by rw [decide_eq_true_eq, hkc]; exact hkl
            by_cases hjl : j < l.length
            · have hnp' : (decide ((nth (allA l clash true l.length) (allA l clash true i ++ rowA l clash i (i + 1) j).length).1 = (i : Int)) && decide ((nth (allA l clash true l.length) (allA l clash true i ++ rowA l clash i (i + 1) j).length).2 = (j : Int))) = clash (nth l i) (nth l j) := by
                rw [← hnp hjl, Bool.eq_iff_iff]; simp [Prod.ext_iff]; intro _ _; simpa using hkl
              (repeat' (first | refine Sni.mk (fun hc => ?_) ?_ | refine AW_seq ?_ | refine AW_block ?_ | ((first | refine AW_reg ?_ | refine AW_cond ?_ | refine AW_skip ?_ | refine AW_exit ?_ | refine AW_ret ?_ | refine AW_regD (by kernel_rfl) ?_ | refine AW_regX (by kernel_rfl) ?_ | refine CallAtG.t (Eq.refl true) ?_ | refine CallAtG.f (Eq.refl false) ?_); try simp (disch := omega) only [go_sem, Nat.reduceLT, Nat.reduceAdd, Nat.reduceSub, Nat.reduceMul, Nat.reduceBEq, Nat.reduceEqDiff, Nat.reduceLeDiff, reduceCtorEq, ↓reduceIte, beq_dec, Int.reduceToNat, Int.reduceLT, Int.reduceLE, Int.reduceAdd, Int.reduceSub, Int.reduceMul, Int.reduceEq, Int.reduceNeg, Int.reduceNe, Int.toNat_natCast, IntKind.signed, IntKind.bits, Int.reducePow, Nat.reducePow, getD_map two, two, hkd, hnp']) | refine And.intro (fun hc => (?_ : AW _ _ _ _)) (fun hc => (?_ : AW _ _ _ _)) | simp (disch := omega) only [go_sem, Nat.reduceLT, Nat.reduceAdd, Nat.reduceSub, Nat.reduceMul, Nat.reduceBEq, Nat.reduceEqDiff, Nat.reduceLeDiff, reduceCtorEq, ↓reduceIte, beq_dec, Int.reduceToNat, Int.reduceLT, Int.reduceLE, Int.reduceAdd, Int.reduceSub, Int.reduceMul, Int.reduceEq, Int.reduceNeg, Int.reduceNe, Int.toNat_natCast, IntKind.signed, IntKind.bits, Int.reducePow, Nat.reducePow, getD_map two, two, hkd, hnp'] | (refine And.intro ?_ ?_; focus (first | (intros; omega) | (intros; simp_all; done))) | refine And.intro (?_ : CallAt _ _ _ _ _ _ _ _) ?_ | refine And.intro (?_ : CallAt _ _ _ _ _ _ _ _ ∧ _) ?_ | fail))
              · refine AW_le _ ?_ (fin hjl _ rfl)
                rw [rowA_succ _ _ _ _ _ (by omega), if_pos hc, ← List.append_assoc, len_one]
                simp (disch := omega) only [go_sem, Nat.reduceLT, Nat.reduceAdd, Nat.reduceSub, Nat.reduceMul, Nat.reduceBEq, Nat.reduceEqDiff, Nat.reduceLeDiff, reduceCtorEq, ↓reduceIte, beq_dec, Int.reduceToNat, Int.reduceLT, Int.reduceLE, Int.reduceAdd, Int.reduceSub, Int.reduceMul, Int.reduceEq, Int.reduceNeg, Int.reduceNe, Int.toNat_natCast, IntKind.signed, IntKind.bits, Int.reducePow, Nat.reducePow, Int.natCast_add, Int.natCast_one, hc]
              · refine AW_le _ ?_ (fin hjl _ rfl)
                rw [rowA_succ _ _ _ _ _ (by omega), if_neg (by simp [hc]), List.append_nil]
                simp (disch := omega) only [go_sem, Nat.reduceLT, Nat.reduceAdd, Nat.reduceSub, Nat.reduceMul, Nat.reduceBEq, Nat.reduceEqDiff, Nat.reduceLeDiff, reduceCtorEq, ↓reduceIte, beq_dec, Int.reduceToNat, Int.reduceLT, Int.reduceLE, Int.reduceAdd, Int.reduceSub, Int.reduceMul, Int.reduceEq, Int.reduceNeg, Int.reduceNe, Int.toNat_natCast, IntKind.signed, IntKind.bits, Int.reducePow, Nat.reducePow, Int.natCast_add, Int.natCast_one, hc]
              · exfalso; omega
            · have hjl : j = l.length := by omega
              subst hjl
              (repeat' (first | refine Sni.mk (fun hc => ?_) ?_ | refine AW_seq ?_ | refine AW_block ?_ | ((first | refine AW_reg ?_ | refine AW_cond ?_ | refine AW_skip ?_ | refine AW_exit ?_ | refine AW_ret ?_ | refine AW_regD (by kernel_rfl) ?_ | refine AW_regX (by kernel_rfl) ?_ | refine CallAtG.t (Eq.refl true) ?_ | refine CallAtG.f (Eq.refl false) ?_); try simp (disch := omega) only [go_sem, Nat.reduceLT, Nat.reduceAdd, Nat.reduceSub, Nat.reduceMul, Nat.reduceBEq, Nat.reduceEqDiff, Nat.reduceLeDiff, reduceCtorEq, ↓reduceIte, beq_dec, Int.reduceToNat, Int.reduceLT, Int.reduceLE, Int.reduceAdd, Int.reduceSub, Int.reduceMul, Int.reduceEq, Int.reduceNeg, Int.reduceNe, Int.toNat_natCast, IntKind.signed, IntKind.bits, Int.reducePow, Nat.reducePow, getD_map two, two, hkd]) | refine And.intro (fun hc => (?_ : AW _ _ _ _)) (fun hc => (?_ : AW _ _ _ _)) | simp (disch := omega) only [go_sem, Nat.reduceLT, Nat.reduceAdd, Nat.reduceSub, Nat.reduceMul, Nat.reduceBEq, Nat.reduceEqDiff, Nat.reduceLeDiff, reduceCtorEq, ↓reduceIte, beq_dec, Int.reduceToNat, Int.reduceLT, Int.reduceLE, Int.reduceAdd, Int.reduceSub, Int.reduceMul, Int.reduceEq, Int.reduceNeg, Int.reduceNe, Int.toNat_natCast, IntKind.signed, IntKind.bits, Int.reducePow, Nat.reducePow, getD_map two, two, hkd] | (refine And.intro ?_ ?_; focus (first | (intros; omega) | (intros; simp_all; done))) | refine And.intro (?_ : CallAt _ _ _ _ _ _ _ _) ?_ | refine And.intro (?_ : CallAt _ _ _ _ _ _ _ _ ∧ _) ?_ | fail))
              · exfalso; omega
              all_goals try (exfalso; omega)
              refine .mk (i + 1) (by omega) (by omega) ?_
              rw [allA_succ]
              simp (disch := omega) only [go_sem, Nat.reduceLT, Nat.reduceAdd, Nat.reduceSub, Nat.reduceMul, Nat.reduceBEq, Nat.reduceEqDiff, Nat.reduceLeDiff, reduceCtorEq, ↓reduceIte, beq_dec, Int.reduceToNat, Int.reduceLT, Int.reduceLE, Int.reduceAdd, Int.reduceSub, Int.reduceMul, Int.reduceEq, Int.reduceNeg, Int.reduceNe, Int.toNat_natCast, IntKind.signed, IntKind.bits, Int.reducePow, Nat.reducePow, Int.natCast_add, Int.natCast_one]
          · have hkd : decide (((allA l clash true i ++ rowA l clash i (i + 1) j).length : Int) < (allA l clash true l.length).length) = false := by rw [decide_eq_false_iff_not, hkc]; exact hkl
            by_cases hjl : j < l.length
            · have hcl : clash (nth l i) (nth l j) = false := by
                rw [← hnp hjl, Bool.and_eq_false_iff]; left; rw [decide_eq_false_iff_not]; exact hkl
              (repeat' (first | refine Sni.mk (fun hc => ?_) ?_ | refine AW_seq ?_ | refine AW_block ?_ | ((first | refine AW_reg ?_ | refine AW_cond ?_ | refine AW_skip ?_ | refine AW_exit ?_ | refine AW_ret ?_ | refine AW_regD (by kernel_rfl) ?_ | refine AW_regX (by kernel_rfl) ?_ | refine CallAtG.t (Eq.refl true) ?_ | refine CallAtG.f (Eq.refl false) ?_); try simp (disch := omega) only [go_sem, Nat.reduceLT, Nat.reduceAdd, Nat.reduceSub, Nat.reduceMul, Nat.reduceBEq, Nat.reduceEqDiff, Nat.reduceLeDiff, reduceCtorEq, ↓reduceIte, beq_dec, Int.reduceToNat, Int.reduceLT, Int.reduceLE, Int.reduceAdd, Int.reduceSub, Int.reduceMul, Int.reduceEq, Int.reduceNeg, Int.reduceNe, Int.toNat_natCast, IntKind.signed, IntKind.bits, Int.reducePow, Nat.reducePow, getD_map_ge two, two, hkd]) | refine And.intro (fun hc => (?_ : AW _ _ _ _)) (fun hc => (?_ : AW _ _ _ _)) | simp (disch := omega) only [go_sem, Nat.reduceLT, Nat.reduceAdd, Nat.reduceSub, Nat.reduceMul, Nat.reduceBEq, Nat.reduceEqDiff, Nat.reduceLeDiff, reduceCtorEq, ↓reduceIte, beq_dec, Int.reduceToNat, Int.reduceLT, Int.reduceLE, Int.reduceAdd, Int.reduceSub, Int.reduceMul, Int.reduceEq, Int.reduceNeg, Int.reduceNe, Int.toNat_natCast, IntKind.signed, IntKind.bits, Int.reducePow, Nat.reducePow, getD_map_ge two, two, hkd] | (refine And.intro ?_ ?_; focus (first | (intros; omega) | (intros; simp_all; done))) | refine And.intro (?_ : CallAt _ _ _ _ _ _ _ _) ?_ | refine And.intro (?_ : CallAt _ _ _ _ _ _ _ _ ∧ _) ?_ | fail))
              refine AW_le _ ?_ (fin hjl _ rfl)
              · rw [rowA_succ _ _ _ _ _ (by omega), if_neg (by simp [hcl]), List.append_nil]
                simp (disch := omega) only [go_sem, Nat.reduceLT, Nat.reduceAdd, Nat.reduceSub, Nat.reduceMul, Nat.reduceBEq, Nat.reduceEqDiff, Nat.reduceLeDiff, reduceCtorEq, ↓reduceIte, beq_dec, Int.reduceToNat, Int.reduceLT, Int.reduceLE, Int.reduceAdd, Int.reduceSub, Int.reduceMul, Int.reduceEq, Int.reduceNeg, Int.reduceNe, Int.toNat_natCast, IntKind.signed, IntKind.bits, Int.reducePow, Nat.reducePow, Int.natCast_add, Int.natCast_one, hcl]
              · exfalso; omega
            · have hjl : j = l.length := by omega
              subst hjl
              (repeat' (first | refine Sni.mk (fun hc => ?_) ?_ | refine AW_seq ?_ | refine AW_block ?_ | ((first | refine AW_reg ?_ | refine AW_cond ?_ | refine AW_skip ?_ | refine AW_exit ?_ | refine AW_ret ?_ | refine AW_regD (by kernel_rfl) ?_ | refine AW_regX (by kernel_rfl) ?_ | refine CallAtG.t (Eq.refl true) ?_ | refine CallAtG.f (Eq.refl false) ?_); try simp (disch := omega) only [go_sem, Nat.reduceLT, Nat.reduceAdd, Nat.reduceSub, Nat.reduceMul, Nat.reduceBEq, Nat.reduceEqDiff, Nat.reduceLeDiff, reduceCtorEq, ↓reduceIte, beq_dec, Int.reduceToNat, Int.reduceLT, Int.reduceLE, Int.reduceAdd, Int.reduceSub, Int.reduceMul, Int.reduceEq, Int.reduceNeg, Int.reduceNe, Int.toNat_natCast, IntKind.signed, IntKind.bits, Int.reducePow, Nat.reducePow, getD_map two, two, hkd]) | refine And.intro (fun hc => (?_ : AW _ _ _ _)) (fun hc => (?_ : AW _ _ _ _)) | simp (disch := omega) only [go_sem, Nat.reduceLT, Nat.reduceAdd, Nat.reduceSub, Nat.reduceMul, Nat.reduceBEq, Nat.reduceEqDiff, Nat.reduceLeDiff, reduceCtorEq, ↓reduceIte, beq_dec, Int.reduceToNat, Int.reduceLT, Int.reduceLE, Int.reduceAdd, Int.reduceSub, Int.reduceMul, Int.reduceEq, Int.reduceNeg, Int.reduceNe, Int.toNat_natCast, IntKind.signed, IntKind.bits, Int.reducePow, Nat.reducePow, getD_map two, two, hkd] | (refine And.intro ?_ ?_; focus (first | (intros; omega) | (intros; simp_all; done))) | refine And.intro (?_ : CallAt _ _ _ _ _ _ _ _) ?_ | refine And.intro (?_ : CallAt _ _ _ _ _ _ _ _ ∧ _) ?_ | fail))
              · exfalso; omega
              all_goals try (exfalso; omega)
              refine .mk (i + 1) (by omega) (by omega) ?_
              rw [allA_succ]
              simp (disch := omega) only [go_sem, Nat.reduceLT, Nat.reduceAdd, Nat.reduceSub, Nat.reduceMul, Nat.reduceBEq, Nat.reduceEqDiff, Nat.reduceLeDiff, reduceCtorEq, ↓reduceIte, beq_dec, Int.reduceToNat, Int.reduceLT, Int.reduceLE, Int.reduceAdd, Int.reduceSub, Int.reduceMul, Int.reduceEq, Int.reduceNeg, Int.reduceNe, Int.toNat_natCast, IntKind.signed, IntKind.bits, Int.reducePow, Nat.reducePow, Int.natCast_add, Int.natCast_one]
      · have : i = l.length := by omega
        subst this
        rfl
end Go.Proofs.Ytdbkhiobchkjjaa

