/-
  Lemmas for the proof: no statement of its own.
-/
import Derived.Test.YtjplkpppjlgheaaWalkE
import Derived.Test.YtjplkpppjlgheaaWalkG
set_option linter.unusedVariables false
set_option linter.unusedSimpArgs false
-- P p_30.txt
open Go Go.AL Go.RowKit
namespace Go.Proofs.Ytjplkpppjlgheaa
set_option maxRecDepth 20000

/-! ### the next order -/
def pv (l : List Int) : Nat → Nat
  | 0 => 0
  | i + 1 => if nth l (i + 1) < nth l i then pv l i else i + 1
def kf (l : List Int) (x : Int) : Nat → Nat
  | 0 => 0
  | k + 1 => if nth l (k + 1) < x then kf l x k else k + 1
def revT (l : List Int) (lo : Nat) : List Int := l.take lo ++ (l.drop lo).reverse
def kOf (l : List Int) (p : Nat) : Nat := kf l (nth l p) (l.length - 1)
def swS (l : List Int) (p k : Nat) : List Int := (l.set p (nth l k)).set k (nth l p)
def nextF (l : List Int) : Option (List Int) := match pv l (l.length - 1) with
  | 0 => none
  | p + 1 => some (revT (swS l p (kOf l p)) (p + 1))
def chk : List (List Int) → Bool
  | [] => true
  | [a] => decide (nextF a = none)
  | a :: b :: r => decide (nextF a = some b) && chk (b :: r)
theorem chk0 : chk (perm 0 0 []) = true := by decide +kernel
theorem chk1 : chk (perm 1 1 []) = true := by decide +kernel
theorem chk2 : chk (perm 2 2 []) = true := by decide +kernel
theorem chk3 : chk (perm 3 3 []) = true := by decide +kernel
theorem chk4 : chk (perm 4 4 []) = true := by decide +kernel
theorem chk5 : chk (perm 5 5 []) = true := by decide +kernel
theorem chk6 : chk (perm 6 6 []) = true := by decide +kernel
theorem chk7 : chk (perm 7 7 []) = true := by decide +kernel
theorem chkn {n : Nat} (h : n ≤ 7) : chk (perm n n []) = true := by
  match n, h with
  | 0, _ => exact chk0
  | 1, _ => exact chk1
  | 2, _ => exact chk2
  | 3, _ => exact chk3
  | 4, _ => exact chk4
  | 5, _ => exact chk5
  | 6, _ => exact chk6
  | 7, _ => exact chk7
theorem chk_step : ∀ {L : List (List Int)}, chk L = true → ∀ i (h : i < L.length), (∀ (h' : i + 1 < L.length), nextF L[i] = some L[i + 1]) ∧ (i + 1 = L.length → nextF L[i] = none)
  | [], _, i, h => by simp at h
  | [a], hc, i, h => by
    have e : i = 0 := by simpa using h
    subst e
    refine ⟨fun h' => by simp at h', fun _ => of_decide_eq_true hc⟩
  | a :: b :: r, hc, i, h => by
    simp only [chk, Bool.and_eq_true, decide_eq_true_eq] at hc
    cases i with
    | zero => exact ⟨fun _ => hc.1, fun h => by simp at h⟩
    | succ i =>
      have ih := chk_step hc.2 i (by simpa using h)
      exact ⟨fun h' => ih.1 (by simpa using h'), fun h' => ih.2 (by simpa using h')⟩
/-- the first of all -/
theorem perm_head {n : Nat} (h : n ≤ 7) : (perm n n []).head? = some (upto n) := by
  match n, h with
  | 0, _ => decide +kernel
  | 1, _ => decide +kernel
  | 2, _ => decide +kernel
  | 3, _ => decide +kernel
  | 4, _ => decide +kernel
  | 5, _ => decide +kernel
  | 6, _ => decide +kernel
  | 7, _ => decide +kernel
theorem perm_first {n : Nat} (h : n ≤ 7) : ∃ r, perm n n [] = upto n :: r := by
  have := perm_head h
  cases hp : perm n n [] with
  | nil => rw [hp] at this; simp at this
  | cons a r => rw [hp] at this; simp at this; exact ⟨r, by rw [this]⟩
end Go.Proofs.Ytjplkpppjlgheaa

-- P p_30.txt
open Go Go.AL Go.RowKit
namespace Go.Proofs.Ytjplkpppjlgheaa
set_option maxRecDepth 20000

def revW (s : List Int) (lo j : Nat) : List Int := (List.range s.length).map fun q => if (lo ≤ q ∧ q < lo + j) ∨ s.length - j ≤ q then nth s (lo + s.length - 1 - q) else nth s q
theorem revW_len (s : List Int) (lo j : Nat) : (revW s lo j).length = s.length := by simp [revW]
theorem revW_nth {s : List Int} {lo j q : Nat} (h : q < s.length) : nth (revW s lo j) q = if (lo ≤ q ∧ q < lo + j) ∨ s.length - j ≤ q then nth s (lo + s.length - 1 - q) else nth s q := by
  rw [nth_eq _ q (by rw [revW_len]; exact h)]; simp [revW]
theorem revW_zero (s : List Int) (lo : Nat) : revW s lo 0 = s := nth_ext (by rw [revW_len]) fun q hq => by
  rw [revW_len] at hq
  rw [revW_nth hq, if_neg (by omega)]
theorem revT_len (s : List Int) (lo : Nat) : (revT s lo).length = s.length := by simp [revT]; omega
theorem revT_nth {s : List Int} {lo q : Nat} (hq : q < s.length) : nth (revT s lo) q = if q < lo then nth s q else nth s (lo + s.length - 1 - q) := by
  rw [nth_eq _ q (by rw [revT_len]; exact hq)]
  unfold revT
  split
  · rw [List.getElem_append_left (by simp; omega), List.getElem_take, nth_eq s q hq]
  · rw [List.getElem_append_right (by simp; omega), List.getElem_reverse, List.getElem_drop, nth_eq s _ (by omega)]
    congr 1
    simp; omega
theorem revW_full {s : List Int} {lo j : Nat} (hl : lo + 2 * j ≤ s.length) (h : s.length ≤ lo + 2 * j + 1) : revW s lo j = revT s lo := nth_ext (by rw [revW_len, revT_len]) fun q hq => by
  rw [revW_len] at hq
  rw [revW_nth hq, revT_nth hq]
  by_cases h1 : q < lo
  · rw [if_pos h1]
    by_cases h2 : (lo ≤ q ∧ q < lo + j) ∨ s.length - j ≤ q
    · omega
    · rw [if_neg h2]
  · rw [if_neg h1]
    by_cases h2 : (lo ≤ q ∧ q < lo + j) ∨ s.length - j ≤ q
    · rw [if_pos h2]
    · rw [if_neg h2]
      congr 1; omega
theorem revW_step {s : List Int} {lo j : Nat} (h : lo + 2 * j + 1 < s.length) : ((revW s lo j).set (lo + j) (nth s (s.length - 1 - j))).set (s.length - 1 - j) (nth s (lo + j)) = revW s lo (j + 1) := nth_ext (by simp [revW_len]) fun q hq => by
  have hq : q < s.length := by simpa [revW_len] using hq
  rw [set_nth _ _ _ _ (by simp [revW_len]; omega), set_nth _ _ _ _ (by rw [revW_len]; omega), revW_nth hq, revW_nth hq]
  by_cases e1 : q = s.length - 1 - j
  · subst e1
    rw [if_pos rfl, if_pos (by omega)]
    congr 1; omega
  · rw [if_neg e1]
    by_cases e2 : q = lo + j
    · subst e2
      rw [if_pos rfl, if_pos (by omega)]
      congr 1; omega
    · rw [if_neg e2]
      by_cases e3 : (lo ≤ q ∧ q < lo + j) ∨ s.length - j ≤ q
      · rw [if_pos e3, if_pos (by omega)]
      · rw [if_neg e3, if_neg (by omega)]
theorem swS_len (l : List Int) (p k : Nat) : (swS l p k).length = l.length := by simp [swS]
theorem kf_ge {l : List Int} {p : Nat} : ∀ k, p ≤ k → p ≤ kf l (nth l p) k
  | 0, h => h
  | k + 1, h => by
    simp only [kf]
    split
    · rename_i hlt
      have : p ≠ k + 1 := fun e => by rw [← e] at hlt; omega
      exact kf_ge k (by omega)
    · exact h
theorem kf_le (l : List Int) (x : Int) : ∀ k, kf l x k ≤ k
  | 0 => Nat.le_refl _
  | k + 1 => by
    have := kf_le l x k
    simp only [kf]
    split <;> omega
theorem pv_le (l : List Int) : ∀ k, pv l k ≤ k
  | 0 => Nat.le_refl _
  | k + 1 => by
    have := pv_le l k
    simp only [pv]
    split <;> omega
def nextR (l : List Int) : List RV := match nextF l with
  | none => [.c .nil, .c (.B false)]
  | some l' => [ORow l', .c (.B true)]
theorem nextR_none {l : List Int} (h : pv l (l.length - 1) = 0) : nextR l = [.c .nil, .c (.B false)] := by
  unfold nextR nextF; rw [h]
theorem nextR_some {l : List Int} {p : Nat} (h : pv l (l.length - 1) = p + 1) : nextR l = [ORow (revT (swS l p (kOf l p)) (p + 1)), .c (.B true)] := by
  unfold nextR nextF; rw [h]
set_option maxHeartbeats 4000000 in
set_option maxRecDepth 100000 in
theorem u34 (l : List Int) (hl : l.length ≤ 1000000) : FnR Try.prog 34 [.c (Row l)] (nextR l) := by
  have hR0 := nextR_none (l := l)
  have hRs := fun p => nextR_some (l := l) (p := p)
  generalize nextR l = R at *
  refine fn_walk code34 (by simp) ?_
  (repeat' (first | refine Sni.mk (fun hc => ?_) ?_ | refine AW_seq ?_ | refine AW_block ?_ | ((first | refine AW_reg ?_ | refine AW_cond ?_ | refine AW_skip ?_ | refine AW_exit ?_ | refine AW_ret ?_ | refine AW_regD (by kernel_rfl) ?_ | refine AW_regX (by kernel_rfl) ?_ | refine CallAtG.t (Eq.refl true) ?_ | refine CallAtG.f (Eq.refl false) ?_); try simp (disch := omega) only [go_sem, Nat.reduceLT, Nat.reduceAdd, Nat.reduceSub, Nat.reduceMul, Nat.reduceBEq, Nat.reduceEqDiff, Nat.reduceLeDiff, reduceCtorEq, ↓reduceIte, beq_dec, Int.reduceToNat, Int.reduceLT, Int.reduceLE, Int.reduceAdd, Int.reduceSub, Int.reduceMul, Int.reduceEq, Int.reduceNeg, Int.reduceNe, Int.toNat_natCast, IntKind.signed, IntKind.bits, Int.reducePow, Nat.reducePow, maxLen, List.nil_append]) | refine And.intro (fun hc => (?_ : AW _ _ _ _)) (fun hc => (?_ : AW _ _ _ _)) | simp (disch := omega) only [go_sem, Nat.reduceLT, Nat.reduceAdd, Nat.reduceSub, Nat.reduceMul, Nat.reduceBEq, Nat.reduceEqDiff, Nat.reduceLeDiff, reduceCtorEq, ↓reduceIte, beq_dec, Int.reduceToNat, Int.reduceLT, Int.reduceLE, Int.reduceAdd, Int.reduceSub, Int.reduceMul, Int.reduceEq, Int.reduceNeg, Int.reduceNe, Int.toNat_natCast, IntKind.signed, IntKind.bits, Int.reducePow, Nat.reducePow, maxLen, List.nil_append] | (refine And.intro ?_ ?_; focus (first | (intros; omega) | (intros; simp_all; done))) | refine And.intro (?_ : CallAt _ _ _ _ _ _ _ _) ?_ | fail))
  refine AW_loopK [4] [5, 15, 16, 17, 18, 19, 20, 21, 22, 23, 24, 25, 26, 27, 28, 29, 30] (fun q : Nat => q ≤ l.length - 1 ∧ pv l (l.length - 1) = pv l q) (fun q => [(5, .I (if l.length = 0 then -2 else (q : Int) - 1))]) (fun _ => []) (fun q => q) (l.length - 1) ⟨by omega, rfl⟩ ?_ ?_
  · by_cases h0 : l.length = 0
    · simp (disch := omega) only [go_sem, Nat.reduceLT, Nat.reduceAdd, Nat.reduceSub, Nat.reduceMul, Nat.reduceBEq, Nat.reduceEqDiff, Nat.reduceLeDiff, reduceCtorEq, ↓reduceIte, beq_dec, Int.reduceToNat, Int.reduceLT, Int.reduceLE, Int.reduceAdd, Int.reduceSub, Int.reduceMul, Int.reduceEq, Int.reduceNeg, Int.reduceNe, Int.toNat_natCast, IntKind.signed, IntKind.bits, Int.reducePow, Nat.reducePow, h0, Int.natCast_zero]
    · have e : ((l.length - 1 : Nat) : Int) - 1 = (l.length : Int) - 2 := by omega
      simp (disch := omega) only [go_sem, Nat.reduceLT, Nat.reduceAdd, Nat.reduceSub, Nat.reduceMul, Nat.reduceBEq, Nat.reduceEqDiff, Nat.reduceLeDiff, reduceCtorEq, ↓reduceIte, beq_dec, Int.reduceToNat, Int.reduceLT, Int.reduceLE, Int.reduceAdd, Int.reduceSub, Int.reduceMul, Int.reduceEq, Int.reduceNeg, Int.reduceNe, Int.toNat_natCast, IntKind.signed, IntKind.bits, Int.reducePow, Nat.reducePow, h0, e]
  · rintro q ⟨hq, hpv⟩
    by_cases h0 : l.length = 0
    case pos =>
      have hr := hR0 (by rw [hpv]; have := pv_le l q; omega)
      rw [hr]
      have hl0 : l = [] := List.length_eq_zero_iff.1 h0
      subst hl0
      have hg : ∀ i, (([] : List Int).map fun x => [CD.I x]).getD i [] = [] := fun i => by simp
      (repeat' (first | refine Sni.mk (fun hc => ?_) ?_ | refine AW_seq ?_ | refine AW_block ?_ | ((first | refine AW_reg ?_ | refine AW_cond ?_ | refine AW_skip ?_ | refine AW_exit ?_ | refine AW_ret ?_ | refine AW_regD (by kernel_rfl) ?_ | refine AW_regX (by kernel_rfl) ?_ | refine CallAtG.t (Eq.refl true) ?_ | refine CallAtG.f (Eq.refl false) ?_); try simp (disch := omega) only [go_sem, Nat.reduceLT, Nat.reduceAdd, Nat.reduceSub, Nat.reduceMul, Nat.reduceBEq, Nat.reduceEqDiff, Nat.reduceLeDiff, reduceCtorEq, ↓reduceIte, beq_dec, Int.reduceToNat, Int.reduceLT, Int.reduceLE, Int.reduceAdd, Int.reduceSub, Int.reduceMul, Int.reduceEq, Int.reduceNeg, Int.reduceNe, Int.toNat_natCast, IntKind.signed, IntKind.bits, Int.reducePow, Nat.reducePow, h0, hg]) | refine And.intro (fun hc => (?_ : AW _ _ _ _)) (fun hc => (?_ : AW _ _ _ _)) | simp (disch := omega) only [go_sem, Nat.reduceLT, Nat.reduceAdd, Nat.reduceSub, Nat.reduceMul, Nat.reduceBEq, Nat.reduceEqDiff, Nat.reduceLeDiff, reduceCtorEq, ↓reduceIte, beq_dec, Int.reduceToNat, Int.reduceLT, Int.reduceLE, Int.reduceAdd, Int.reduceSub, Int.reduceMul, Int.reduceEq, Int.reduceNeg, Int.reduceNe, Int.toNat_natCast, IntKind.signed, IntKind.bits, Int.reducePow, Nat.reducePow, h0, hg] | (refine And.intro ?_ ?_; focus (first | (intros; omega) | (intros; simp_all; done))) | refine And.intro (?_ : CallAt _ _ _ _ _ _ _ _) ?_ | fail))
    case neg =>
      cases q with
      | zero =>
        have hr := hR0 (by rw [hpv]; rfl)
        rw [hr]
        have hd : decide (0 ≤ ((0 : Nat) : Int) - 1) = false := by decide
        have hd2 : decide (((0 : Nat) : Int) - 1 < 0) = true := by decide
        have ht1 : (((0 : Nat) : Int) - 1).toNat = 0 := rfl
        have ht2 : (((0 : Nat) : Int) - 1 + 1).toNat = 0 := rfl
        (repeat' (first | refine Sni.mk (fun hc => ?_) ?_ | refine AW_seq ?_ | refine AW_block ?_ | ((first | refine AW_reg ?_ | refine AW_cond ?_ | refine AW_skip ?_ | refine AW_exit ?_ | refine AW_ret ?_ | refine AW_regD (by kernel_rfl) ?_ | refine AW_regX (by kernel_rfl) ?_ | refine CallAtG.t (Eq.refl true) ?_ | refine CallAtG.f (Eq.refl false) ?_); try simp (disch := omega) only [go_sem, Nat.reduceLT, Nat.reduceAdd, Nat.reduceSub, Nat.reduceMul, Nat.reduceBEq, Nat.reduceEqDiff, Nat.reduceLeDiff, reduceCtorEq, ↓reduceIte, beq_dec, Int.reduceToNat, Int.reduceLT, Int.reduceLE, Int.reduceAdd, Int.reduceSub, Int.reduceMul, Int.reduceEq, Int.reduceNeg, Int.reduceNe, Int.toNat_natCast, IntKind.signed, IntKind.bits, Int.reducePow, Nat.reducePow, h0, if_false, hd, hd2, ht1, ht2, getD_map (fun x : Int => [CD.I x])]) | refine And.intro (fun hc => (?_ : AW _ _ _ _)) (fun hc => (?_ : AW _ _ _ _)) | simp (disch := omega) only [go_sem, Nat.reduceLT, Nat.reduceAdd, Nat.reduceSub, Nat.reduceMul, Nat.reduceBEq, Nat.reduceEqDiff, Nat.reduceLeDiff, reduceCtorEq, ↓reduceIte, beq_dec, Int.reduceToNat, Int.reduceLT, Int.reduceLE, Int.reduceAdd, Int.reduceSub, Int.reduceMul, Int.reduceEq, Int.reduceNeg, Int.reduceNe, Int.toNat_natCast, IntKind.signed, IntKind.bits, Int.reducePow, Nat.reducePow, h0, if_false, hd, hd2, ht1, ht2, getD_map (fun x : Int => [CD.I x])] | (refine And.intro ?_ ?_; focus (first | (intros; omega) | (intros; simp_all; done))) | refine And.intro (?_ : CallAt _ _ _ _ _ _ _ _) ?_ | fail))
      | succ q =>
        have hd : decide (0 ≤ ((q + 1 : Nat) : Int) - 1) = true := decide_eq_true (by omega)
        have ht1 : (((q + 1 : Nat) : Int) - 1).toNat = q := by omega
        have ht2 : (((q + 1 : Nat) : Int) - 1 + 1).toNat = q + 1 := by omega
        by_cases hlt : nth l (q + 1) < nth l q
        case pos =>
          have hlt' : decide (nth l (q + 1) < nth l q) = true := decide_eq_true hlt
          have e : pv l (q + 1) = pv l q := by rw [pv, if_pos hlt]
          (repeat' (first | refine Sni.mk (fun hc => ?_) ?_ | refine AW_seq ?_ | refine AW_block ?_ | ((first | refine AW_reg ?_ | refine AW_cond ?_ | refine AW_skip ?_ | refine AW_exit ?_ | refine AW_ret ?_ | refine AW_regD (by kernel_rfl) ?_ | refine AW_regX (by kernel_rfl) ?_ | refine CallAtG.t (Eq.refl true) ?_ | refine CallAtG.f (Eq.refl false) ?_); try simp (disch := omega) only [go_sem, Nat.reduceLT, Nat.reduceAdd, Nat.reduceSub, Nat.reduceMul, Nat.reduceBEq, Nat.reduceEqDiff, Nat.reduceLeDiff, reduceCtorEq, ↓reduceIte, beq_dec, Int.reduceToNat, Int.reduceLT, Int.reduceLE, Int.reduceAdd, Int.reduceSub, Int.reduceMul, Int.reduceEq, Int.reduceNeg, Int.reduceNe, Int.toNat_natCast, IntKind.signed, IntKind.bits, Int.reducePow, Nat.reducePow, h0, if_false, hd, ht1, ht2, hlt', getD_map (fun x : Int => [CD.I x])]) | refine And.intro (fun hc => (?_ : AW _ _ _ _)) (fun hc => (?_ : AW _ _ _ _)) | simp (disch := omega) only [go_sem, Nat.reduceLT, Nat.reduceAdd, Nat.reduceSub, Nat.reduceMul, Nat.reduceBEq, Nat.reduceEqDiff, Nat.reduceLeDiff, reduceCtorEq, ↓reduceIte, beq_dec, Int.reduceToNat, Int.reduceLT, Int.reduceLE, Int.reduceAdd, Int.reduceSub, Int.reduceMul, Int.reduceEq, Int.reduceNeg, Int.reduceNe, Int.toNat_natCast, IntKind.signed, IntKind.bits, Int.reducePow, Nat.reducePow, h0, if_false, hd, ht1, ht2, hlt', getD_map (fun x : Int => [CD.I x])] | (refine And.intro ?_ ?_; focus (first | (intros; omega) | (intros; simp_all; done))) | refine And.intro (?_ : CallAt _ _ _ _ _ _ _ _) ?_ | fail))
          refine .mk q ⟨by omega, by rw [hpv, e]⟩ (by omega) ?_
          have e3 : ((q + 1 : Nat) : Int) - 1 - 1 = (q : Int) - 1 := by omega
          simp (disch := omega) only [go_sem, Nat.reduceLT, Nat.reduceAdd, Nat.reduceSub, Nat.reduceMul, Nat.reduceBEq, Nat.reduceEqDiff, Nat.reduceLeDiff, reduceCtorEq, ↓reduceIte, beq_dec, Int.reduceToNat, Int.reduceLT, Int.reduceLE, Int.reduceAdd, Int.reduceSub, Int.reduceMul, Int.reduceEq, Int.reduceNeg, Int.reduceNe, Int.toNat_natCast, IntKind.signed, IntKind.bits, Int.reducePow, Nat.reducePow, h0, e3]
        case neg =>
          have hlt' : decide (nth l (q + 1) < nth l q) = false := decide_eq_false hlt
          have e : pv l (q + 1) = q + 1 := by rw [pv, if_neg hlt]
          have hr := hRs q (by rw [hpv, e])
          rw [hr]
          have hd2 : decide (((q + 1 : Nat) : Int) - 1 < 0) = false := decide_eq_false (by omega)
          (repeat' (first | refine Sni.mk (fun hc => ?_) ?_ | refine AW_seq ?_ | refine AW_block ?_ | ((first | refine AW_reg ?_ | refine AW_cond ?_ | refine AW_skip ?_ | refine AW_exit ?_ | refine AW_ret ?_ | refine AW_regD (by kernel_rfl) ?_ | refine AW_regX (by kernel_rfl) ?_ | refine CallAtG.t (Eq.refl true) ?_ | refine CallAtG.f (Eq.refl false) ?_); try simp (disch := omega) only [go_sem, Nat.reduceLT, Nat.reduceAdd, Nat.reduceSub, Nat.reduceMul, Nat.reduceBEq, Nat.reduceEqDiff, Nat.reduceLeDiff, reduceCtorEq, ↓reduceIte, beq_dec, Int.reduceToNat, Int.reduceLT, Int.reduceLE, Int.reduceAdd, Int.reduceSub, Int.reduceMul, Int.reduceEq, Int.reduceNeg, Int.reduceNe, Int.toNat_natCast, IntKind.signed, IntKind.bits, Int.reducePow, Nat.reducePow, h0, if_false, hd, hd2, ht1, ht2, hlt', getD_map (fun x : Int => [CD.I x])]) | refine And.intro (fun hc => (?_ : AW _ _ _ _)) (fun hc => (?_ : AW _ _ _ _)) | simp (disch := omega) only [go_sem, Nat.reduceLT, Nat.reduceAdd, Nat.reduceSub, Nat.reduceMul, Nat.reduceBEq, Nat.reduceEqDiff, Nat.reduceLeDiff, reduceCtorEq, ↓reduceIte, beq_dec, Int.reduceToNat, Int.reduceLT, Int.reduceLE, Int.reduceAdd, Int.reduceSub, Int.reduceMul, Int.reduceEq, Int.reduceNeg, Int.reduceNe, Int.toNat_natCast, IntKind.signed, IntKind.bits, Int.reducePow, Nat.reducePow, h0, if_false, hd, hd2, ht1, ht2, hlt', getD_map (fun x : Int => [CD.I x])] | (refine And.intro ?_ ?_; focus (first | (intros; omega) | (intros; simp_all; done))) | refine And.intro (?_ : CallAt _ _ _ _ _ _ _ _) ?_ | fail))
          refine AW_loopK [4, 5] [6, 36, 37, 38, 39, 40, 41, 42, 43, 44, 45, 46] (fun k : Nat => (q ≤ k ∧ k ≤ l.length - 1) ∧ kOf l q = kf l (nth l q) k) (fun k => [(6, .I k)]) (fun _ => []) (fun k => k) (l.length - 1) ⟨by omega, rfl⟩ ?_ ?_
          · have e4 : ((l.length - 1 : Nat) : Int) = (l.length : Int) - 1 := by omega
            simp (disch := omega) only [go_sem, Nat.reduceLT, Nat.reduceAdd, Nat.reduceSub, Nat.reduceMul, Nat.reduceBEq, Nat.reduceEqDiff, Nat.reduceLeDiff, reduceCtorEq, ↓reduceIte, beq_dec, Int.reduceToNat, Int.reduceLT, Int.reduceLE, Int.reduceAdd, Int.reduceSub, Int.reduceMul, Int.reduceEq, Int.reduceNeg, Int.reduceNe, Int.toNat_natCast, IntKind.signed, IntKind.bits, Int.reducePow, Nat.reducePow, e4]
          · rintro k ⟨hk, hkf⟩
            have ht3 : ((k : Int)).toNat = k := by omega
            by_cases hlk : nth l k < nth l q
            case pos =>
              have hlk' : decide (nth l k < nth l q) = true := decide_eq_true hlk
              have hne : k ≠ q := fun e => by rw [e] at hlk; omega
              obtain ⟨k, rfl⟩ : ∃ k', k = k' + 1 := ⟨k - 1, by omega⟩
              have e5 : kf l (nth l q) (k + 1) = kf l (nth l q) k := by rw [kf, if_pos hlk]
              (repeat' (first | refine Sni.mk (fun hc => ?_) ?_ | refine AW_seq ?_ | refine AW_block ?_ | ((first | refine AW_reg ?_ | refine AW_cond ?_ | refine AW_skip ?_ | refine AW_exit ?_ | refine AW_ret ?_ | refine AW_regD (by kernel_rfl) ?_ | refine AW_regX (by kernel_rfl) ?_ | refine CallAtG.t (Eq.refl true) ?_ | refine CallAtG.f (Eq.refl false) ?_); try simp (disch := omega) only [go_sem, Nat.reduceLT, Nat.reduceAdd, Nat.reduceSub, Nat.reduceMul, Nat.reduceBEq, Nat.reduceEqDiff, Nat.reduceLeDiff, reduceCtorEq, ↓reduceIte, beq_dec, Int.reduceToNat, Int.reduceLT, Int.reduceLE, Int.reduceAdd, Int.reduceSub, Int.reduceMul, Int.reduceEq, Int.reduceNeg, Int.reduceNe, Int.toNat_natCast, IntKind.signed, IntKind.bits, Int.reducePow, Nat.reducePow, ht1, ht3, hlk', getD_map (fun x : Int => [CD.I x])]) | refine And.intro (fun hc => (?_ : AW _ _ _ _)) (fun hc => (?_ : AW _ _ _ _)) | simp (disch := omega) only [go_sem, Nat.reduceLT, Nat.reduceAdd, Nat.reduceSub, Nat.reduceMul, Nat.reduceBEq, Nat.reduceEqDiff, Nat.reduceLeDiff, reduceCtorEq, ↓reduceIte, beq_dec, Int.reduceToNat, Int.reduceLT, Int.reduceLE, Int.reduceAdd, Int.reduceSub, Int.reduceMul, Int.reduceEq, Int.reduceNeg, Int.reduceNe, Int.toNat_natCast, IntKind.signed, IntKind.bits, Int.reducePow, Nat.reducePow, ht1, ht3, hlk', getD_map (fun x : Int => [CD.I x])] | (refine And.intro ?_ ?_; focus (first | (intros; omega) | (intros; simp_all; done))) | refine And.intro (?_ : CallAt _ _ _ _ _ _ _ _) ?_ | fail))
              refine .mk k ⟨by omega, by rw [hkf, e5]⟩ (by omega) ?_
              have e6 : ((k + 1 : Nat) : Int) - 1 = (k : Int) := by omega
              simp (disch := omega) only [go_sem, Nat.reduceLT, Nat.reduceAdd, Nat.reduceSub, Nat.reduceMul, Nat.reduceBEq, Nat.reduceEqDiff, Nat.reduceLeDiff, reduceCtorEq, ↓reduceIte, beq_dec, Int.reduceToNat, Int.reduceLT, Int.reduceLE, Int.reduceAdd, Int.reduceSub, Int.reduceMul, Int.reduceEq, Int.reduceNeg, Int.reduceNe, Int.toNat_natCast, IntKind.signed, IntKind.bits, Int.reducePow, Nat.reducePow, e6]
            case neg =>
              have hlk' : decide (nth l k < nth l q) = false := decide_eq_false hlk
              have e5 : kOf l q = k := by
                rw [hkf]
                cases k with
                | zero => rfl
                | succ k => rw [kf, if_neg hlk]
              rw [e5]
              have eS : (l.set q (nth l k)).set k (nth l q) = swS l q k := rfl
              have hsl1 : (l.set q (nth l k)).length = l.length := by simp
              have hsl := swS_len l q k
              generalize swS l q k = s at *
              clear hkf hpv e e5 hr hR0 hRs
              (repeat' (first | refine Sni.mk (fun hc => ?_) ?_ | refine AW_seq ?_ | refine AW_block ?_ | ((first | refine AW_reg ?_ | refine AW_cond ?_ | refine AW_skip ?_ | refine AW_exit ?_ | refine AW_ret ?_ | refine AW_regD (by kernel_rfl) ?_ | refine AW_regX (by kernel_rfl) ?_ | refine CallAtG.t (Eq.refl true) ?_ | refine CallAtG.f (Eq.refl false) ?_); try simp (disch := omega) only [go_sem, Nat.reduceLT, Nat.reduceAdd, Nat.reduceSub, Nat.reduceMul, Nat.reduceBEq, Nat.reduceEqDiff, Nat.reduceLeDiff, reduceCtorEq, ↓reduceIte, beq_dec, Int.reduceToNat, Int.reduceLT, Int.reduceLE, Int.reduceAdd, Int.reduceSub, Int.reduceMul, Int.reduceEq, Int.reduceNeg, Int.reduceNe, Int.toNat_natCast, IntKind.signed, IntKind.bits, Int.reducePow, Nat.reducePow, ht1, ht3, hlk', hsl1, getD_map (fun x : Int => [CD.I x]), iset', eS]) | refine And.intro (fun hc => (?_ : AW _ _ _ _)) (fun hc => (?_ : AW _ _ _ _)) | simp (disch := omega) only [go_sem, Nat.reduceLT, Nat.reduceAdd, Nat.reduceSub, Nat.reduceMul, Nat.reduceBEq, Nat.reduceEqDiff, Nat.reduceLeDiff, reduceCtorEq, ↓reduceIte, beq_dec, Int.reduceToNat, Int.reduceLT, Int.reduceLE, Int.reduceAdd, Int.reduceSub, Int.reduceMul, Int.reduceEq, Int.reduceNeg, Int.reduceNe, Int.toNat_natCast, IntKind.signed, IntKind.bits, Int.reducePow, Nat.reducePow, ht1, ht3, hlk', hsl1, getD_map (fun x : Int => [CD.I x]), iset', eS] | (refine And.intro ?_ ?_; focus (first | (intros; omega) | (intros; simp_all; done))) | refine And.intro (?_ : CallAt _ _ _ _ _ _ _ _) ?_ | fail))
              refine And.intro ?_ ?_
              all_goals
                (repeat' (first | refine Sni.mk (fun hc => ?_) ?_ | refine AW_seq ?_ | refine AW_block ?_ | ((first | refine AW_reg ?_ | refine AW_cond ?_ | refine AW_skip ?_ | refine AW_exit ?_ | refine AW_ret ?_ | refine AW_regD (by kernel_rfl) ?_ | refine AW_regX (by kernel_rfl) ?_ | refine CallAtG.t (Eq.refl true) ?_ | refine CallAtG.f (Eq.refl false) ?_); try simp (disch := omega) only [go_sem, Nat.reduceLT, Nat.reduceAdd, Nat.reduceSub, Nat.reduceMul, Nat.reduceBEq, Nat.reduceEqDiff, Nat.reduceLeDiff, reduceCtorEq, ↓reduceIte, beq_dec, Int.reduceToNat, Int.reduceLT, Int.reduceLE, Int.reduceAdd, Int.reduceSub, Int.reduceMul, Int.reduceEq, Int.reduceNeg, Int.reduceNe, Int.toNat_natCast, IntKind.signed, IntKind.bits, Int.reducePow, Nat.reducePow, hsl, hsl1]) | refine And.intro (fun hc => (?_ : AW _ _ _ _)) (fun hc => (?_ : AW _ _ _ _)) | simp (disch := omega) only [go_sem, Nat.reduceLT, Nat.reduceAdd, Nat.reduceSub, Nat.reduceMul, Nat.reduceBEq, Nat.reduceEqDiff, Nat.reduceLeDiff, reduceCtorEq, ↓reduceIte, beq_dec, Int.reduceToNat, Int.reduceLT, Int.reduceLE, Int.reduceAdd, Int.reduceSub, Int.reduceMul, Int.reduceEq, Int.reduceNeg, Int.reduceNe, Int.toNat_natCast, IntKind.signed, IntKind.bits, Int.reducePow, Nat.reducePow, hsl, hsl1] | (refine And.intro ?_ ?_; focus (first | (intros; omega) | (intros; simp_all; done))) | refine And.intro (?_ : CallAt _ _ _ _ _ _ _ _) ?_ | fail))
                refine AW_loopK [4] [7, 8, 66, 67, 68, 69, 70, 71, 72, 73, 74, 75, 76, 77, 78, 79, 80, 81, 82, 83, 84, 85, 86] (fun j : Nat => q + 1 + 2 * j ≤ s.length) (fun j => [(7, .I ((q : Int) + 1 + j)), (8, .I ((s.length : Int) - 1 - j))]) (fun j => [(9, .arr 3 1 ((revW s (q + 1) j).map fun x => [CD.I x]))]) (fun j => s.length - j) 0 (by omega) ?_ ?_
                · have e1 : ((q + 1 : Nat) : Int) - 1 + 1 = (q : Int) + 1 := by omega
                  simp (disch := omega) only [go_sem, Nat.reduceLT, Nat.reduceAdd, Nat.reduceSub, Nat.reduceMul, Nat.reduceBEq, Nat.reduceEqDiff, Nat.reduceLeDiff, reduceCtorEq, ↓reduceIte, beq_dec, Int.reduceToNat, Int.reduceLT, Int.reduceLE, Int.reduceAdd, Int.reduceSub, Int.reduceMul, Int.reduceEq, Int.reduceNeg, Int.reduceNe, Int.toNat_natCast, IntKind.signed, IntKind.bits, Int.reducePow, Nat.reducePow, Int.natCast_zero, Int.add_zero, Int.sub_zero, revW_zero, hsl, e1]
                · rintro j hj
                  have hrl := revW_len s (q + 1) j
                  have t1 : ((q : Int) + 1 + (j : Int)).toNat = q + 1 + j := by omega
                  by_cases hjl : q + 1 + 2 * j + 1 < s.length
                  case neg =>
                    have hdj : decide ((q : Int) + 1 + (j : Int) < (s.length : Int) - 1 - (j : Int)) = false := decide_eq_false (by omega)
                    have e := revW_full (s := s) (lo := q + 1) (j := j) hj (by omega)
                    (repeat' (first | refine Sni.mk (fun hc => ?_) ?_ | refine AW_seq ?_ | refine AW_block ?_ | ((first | refine AW_reg ?_ | refine AW_cond ?_ | refine AW_skip ?_ | refine AW_exit ?_ | refine AW_ret ?_ | refine AW_regD (by kernel_rfl) ?_ | refine AW_regX (by kernel_rfl) ?_ | refine CallAtG.t (Eq.refl true) ?_ | refine CallAtG.f (Eq.refl false) ?_); try simp (disch := omega) only [go_sem, Nat.reduceLT, Nat.reduceAdd, Nat.reduceSub, Nat.reduceMul, Nat.reduceBEq, Nat.reduceEqDiff, Nat.reduceLeDiff, reduceCtorEq, ↓reduceIte, beq_dec, Int.reduceToNat, Int.reduceLT, Int.reduceLE, Int.reduceAdd, Int.reduceSub, Int.reduceMul, Int.reduceEq, Int.reduceNeg, Int.reduceNe, Int.toNat_natCast, IntKind.signed, IntKind.bits, Int.reducePow, Nat.reducePow, hdj, e]) | refine And.intro (fun hc => (?_ : AW _ _ _ _)) (fun hc => (?_ : AW _ _ _ _)) | simp (disch := omega) only [go_sem, Nat.reduceLT, Nat.reduceAdd, Nat.reduceSub, Nat.reduceMul, Nat.reduceBEq, Nat.reduceEqDiff, Nat.reduceLeDiff, reduceCtorEq, ↓reduceIte, beq_dec, Int.reduceToNat, Int.reduceLT, Int.reduceLE, Int.reduceAdd, Int.reduceSub, Int.reduceMul, Int.reduceEq, Int.reduceNeg, Int.reduceNe, Int.toNat_natCast, IntKind.signed, IntKind.bits, Int.reducePow, Nat.reducePow, hdj, e] | (refine And.intro ?_ ?_; focus (first | (intros; omega) | (intros; simp_all; done))) | refine And.intro (?_ : CallAt _ _ _ _ _ _ _ _) ?_ | fail))
                  case pos =>
                    have hdj : decide ((q : Int) + 1 + (j : Int) < (s.length : Int) - 1 - (j : Int)) = true := decide_eq_true (by omega)
                    have t2 : ((s.length : Int) - 1 - (j : Int)).toNat = s.length - 1 - j := by omega
                    have e := revW_step (s := s) (lo := q + 1) (j := j) hjl
                    have n1 : nth (revW s (q + 1) j) (q + 1 + j) = nth s (q + 1 + j) := by rw [revW_nth (by omega), if_neg (by omega)]
                    have n2 : nth (revW s (q + 1) j) (s.length - 1 - j) = nth s (s.length - 1 - j) := by rw [revW_nth (by omega), if_neg (by omega)]
                    have hsl3 : ((revW s (q + 1) j).set (q + 1 + j) (nth s (s.length - 1 - j))).length = s.length := by simp [revW_len]
                    (repeat' (first | refine Sni.mk (fun hc => ?_) ?_ | refine AW_seq ?_ | refine AW_block ?_ | ((first | refine AW_reg ?_ | refine AW_cond ?_ | refine AW_skip ?_ | refine AW_exit ?_ | refine AW_ret ?_ | refine AW_regD (by kernel_rfl) ?_ | refine AW_regX (by kernel_rfl) ?_ | refine CallAtG.t (Eq.refl true) ?_ | refine CallAtG.f (Eq.refl false) ?_); try simp (disch := omega) only [go_sem, Nat.reduceLT, Nat.reduceAdd, Nat.reduceSub, Nat.reduceMul, Nat.reduceBEq, Nat.reduceEqDiff, Nat.reduceLeDiff, reduceCtorEq, ↓reduceIte, beq_dec, Int.reduceToNat, Int.reduceLT, Int.reduceLE, Int.reduceAdd, Int.reduceSub, Int.reduceMul, Int.reduceEq, Int.reduceNeg, Int.reduceNe, Int.toNat_natCast, IntKind.signed, IntKind.bits, Int.reducePow, Nat.reducePow, hdj, t1, t2, hrl, n1, n2, hsl3, getD_map (fun x : Int => [CD.I x]), iset', e]) | refine And.intro (fun hc => (?_ : AW _ _ _ _)) (fun hc => (?_ : AW _ _ _ _)) | simp (disch := omega) only [go_sem, Nat.reduceLT, Nat.reduceAdd, Nat.reduceSub, Nat.reduceMul, Nat.reduceBEq, Nat.reduceEqDiff, Nat.reduceLeDiff, reduceCtorEq, ↓reduceIte, beq_dec, Int.reduceToNat, Int.reduceLT, Int.reduceLE, Int.reduceAdd, Int.reduceSub, Int.reduceMul, Int.reduceEq, Int.reduceNeg, Int.reduceNe, Int.toNat_natCast, IntKind.signed, IntKind.bits, Int.reducePow, Nat.reducePow, hdj, t1, t2, hrl, n1, n2, hsl3, getD_map (fun x : Int => [CD.I x]), iset', e] | (refine And.intro ?_ ?_; focus (first | (intros; omega) | (intros; simp_all; done))) | refine And.intro (?_ : CallAt _ _ _ _ _ _ _ _) ?_ | fail))
                    refine And.intro ?_ ?_
                    all_goals
                      (repeat' (first | refine Sni.mk (fun hc => ?_) ?_ | refine AW_seq ?_ | refine AW_block ?_ | ((first | refine AW_reg ?_ | refine AW_cond ?_ | refine AW_skip ?_ | refine AW_exit ?_ | refine AW_ret ?_ | refine AW_regD (by kernel_rfl) ?_ | refine AW_regX (by kernel_rfl) ?_ | refine CallAtG.t (Eq.refl true) ?_ | refine CallAtG.f (Eq.refl false) ?_); try simp (disch := omega) only [go_sem, Nat.reduceLT, Nat.reduceAdd, Nat.reduceSub, Nat.reduceMul, Nat.reduceBEq, Nat.reduceEqDiff, Nat.reduceLeDiff, reduceCtorEq, ↓reduceIte, beq_dec, Int.reduceToNat, Int.reduceLT, Int.reduceLE, Int.reduceAdd, Int.reduceSub, Int.reduceMul, Int.reduceEq, Int.reduceNeg, Int.reduceNe, Int.toNat_natCast, IntKind.signed, IntKind.bits, Int.reducePow, Nat.reducePow, hrl, hsl3]) | refine And.intro (fun hc => (?_ : AW _ _ _ _)) (fun hc => (?_ : AW _ _ _ _)) | simp (disch := omega) only [go_sem, Nat.reduceLT, Nat.reduceAdd, Nat.reduceSub, Nat.reduceMul, Nat.reduceBEq, Nat.reduceEqDiff, Nat.reduceLeDiff, reduceCtorEq, ↓reduceIte, beq_dec, Int.reduceToNat, Int.reduceLT, Int.reduceLE, Int.reduceAdd, Int.reduceSub, Int.reduceMul, Int.reduceEq, Int.reduceNeg, Int.reduceNe, Int.toNat_natCast, IntKind.signed, IntKind.bits, Int.reducePow, Nat.reducePow, hrl, hsl3] | (refine And.intro ?_ ?_; focus (first | (intros; omega) | (intros; simp_all; done))) | refine And.intro (?_ : CallAt _ _ _ _ _ _ _ _) ?_ | fail))
                      refine .mk (j + 1) (by omega) (by omega) ?_
                      have e2 : (s.length : Int) - 1 - ((j : Int) + 1) = (s.length : Int) - 1 - (j : Int) - 1 := by omega
                      have e3 : (q : Int) + 1 + ((j : Int) + 1) = (q : Int) + 1 + (j : Int) + 1 := by omega
                      simp (disch := omega) only [go_sem, Nat.reduceLT, Nat.reduceAdd, Nat.reduceSub, Nat.reduceMul, Nat.reduceBEq, Nat.reduceEqDiff, Nat.reduceLeDiff, reduceCtorEq, ↓reduceIte, beq_dec, Int.reduceToNat, Int.reduceLT, Int.reduceLE, Int.reduceAdd, Int.reduceSub, Int.reduceMul, Int.reduceEq, Int.reduceNeg, Int.reduceNe, Int.toNat_natCast, IntKind.signed, IntKind.bits, Int.reducePow, Nat.reducePow, Int.natCast_add, Int.natCast_one, e2, e3]
end Go.Proofs.Ytjplkpppjlgheaa

