/-
  Lemmas for the proof: no statement of its own.
-/
import Derived.Test.YtdbkhiobchkjjaaWalkA
import Derived.Test.YtdbkhiobchkjjaaAlD
set_option linter.unusedVariables false
set_option linter.unusedSimpArgs false
open Go Go.AL Go.RowKit
namespace Go.Proofs.Ytdbkhiobchkjjaa

abbrev Coins (l : List Coin) : CD := .sl 7 (l.map Coin.cd)
def ids (l : List Coin) : Nat → List Int
  | 0 => []
  | i + 1 => if (nth l i).id ∈ ids l i then ids l i else ids l i ++ [(nth l i).id]
def twice (l : List Coin) : Nat → Bool
  | 0 => false
  | i + 1 => twice l i || decide ((nth l i).id ∈ ids l i)
def idMap (l : List Int) : List (Int × Sum CD (List CD)) := l.map fun n => (n, .inl (.B true))
theorem idMap_look (n : Int) : ∀ l : List Int, argAV ((mlook (idMap l) n).getD (.inl (.sc (.bool false)))) = .B (decide (n ∈ l))
  | [] => rfl
  | m :: r => by
    have := idMap_look n r
    simp only [idMap, List.map_cons, mlook] at this ⊢
    by_cases h : n = m
    · simp [h, argAV]
    · simp [h, this]
theorem idMap_set (n : Int) : ∀ l : List Int, mset (idMap l) n (.inl (.B true)) = idMap (if n ∈ l then l else l ++ [n])
  | [] => rfl
  | m :: r => by
    have := idMap_set n r
    simp only [idMap, List.map_cons, mset] at this ⊢
    by_cases h : n = m
    · simp [h]
    · rw [if_neg h, this]
      by_cases h2 : n ∈ r <;> simp [h, h2]
def chk (l : List Coin) : Int := if 64 < l.length then 6 else if l.all validS then (if twice l l.length then 8 else 0) else 1

theorem f37 (l : List Coin) : FnR Try.prog 37 [.c (Coins l)] [.c (.I (chk l))] := by
  refine fn_walk code37 (by simp) ?_
  (repeat' (first | refine AW_seq ?_ | refine AW_block ?_ | ((first | refine AW_reg ?_ | refine AW_cond ?_ | refine AW_skip ?_ | refine AW_exit ?_ | refine AW_ret ?_ | refine AW_regD (by kernel_rfl) ?_); try simp (disch := omega) only [go_sem, Nat.reduceLT, Nat.reduceAdd, Nat.reduceSub, Nat.reduceMul, Nat.reduceBEq, Nat.reduceEqDiff, Nat.reduceLeDiff, reduceCtorEq, ↓reduceIte, Nat.beq, Int.reduceToNat, Int.reduceLT, Int.reduceLE, Int.reduceAdd, Int.reduceSub, Int.reduceMul, Int.reduceEq, Int.reduceNeg, Int.reduceNe, Int.toNat_natCast, IntKind.signed, IntKind.bits, Int.reducePow, Nat.reducePow]) | refine And.intro (fun hc => (?_ : AW _ _ _ _)) (fun hc => (?_ : AW _ _ _ _)) | simp (disch := omega) only [go_sem, Nat.reduceLT, Nat.reduceAdd, Nat.reduceSub, Nat.reduceMul, Nat.reduceBEq, Nat.reduceEqDiff, Nat.reduceLeDiff, reduceCtorEq, ↓reduceIte, Nat.beq, Int.reduceToNat, Int.reduceLT, Int.reduceLE, Int.reduceAdd, Int.reduceSub, Int.reduceMul, Int.reduceEq, Int.reduceNeg, Int.reduceNe, Int.toNat_natCast, IntKind.signed, IntKind.bits, Int.reducePow, Nat.reducePow] | (refine And.intro ?_ ?_; focus (first | (intros; omega) | (intros; simp_all; done))) | fail))
  · unfold chk; rw [if_pos (by omega)]
  · refine AW_loop (ι := {i : Nat // i ≤ l.length ∧ ∀ j, j < i → validS (nth l j) = true}) (fun i => ⟨32, [(0, .c (Coins l)), (11, .c (Coins l)), (12, .I l.length), (13, .I i.1), (3, .own 10), (4, .B (twice l i.1))], [(10, .map .i64 (idMap (ids l i.1)))]⟩) (fun i => l.length - i.1) ⟨0, by omega, by omega⟩ ?_ ?_
    · simp (disch := omega) only [go_sem, Nat.reduceLT, Nat.reduceAdd, Nat.reduceSub, Nat.reduceMul, Nat.reduceBEq, Nat.reduceEqDiff, Nat.reduceLeDiff, reduceCtorEq, ↓reduceIte, Nat.beq, Int.reduceToNat, Int.reduceLT, Int.reduceLE, Int.reduceAdd, Int.reduceSub, Int.reduceMul, Int.reduceEq, Int.reduceNeg, Int.reduceNe, Int.toNat_natCast, IntKind.signed, IntKind.bits, Int.reducePow, Nat.reducePow, twice, ids, idMap, Int.natCast_zero, Int.ofNat_zero]
    · rintro ⟨i, hi, hv⟩
      (repeat' (first | refine AW_seq ?_ | refine AW_block ?_ | ((first | refine AW_reg ?_ | refine AW_cond ?_ | refine AW_skip ?_ | refine AW_exit ?_ | refine AW_ret ?_ | refine AW_regD (by kernel_rfl) ?_ | refine CallAt.mk _ (f32 ..) (by first | (intro h; cases h; done) | (intro _; repeat' (first | exact List.forall_mem_nil _ | trivial | refine List.forall_mem_cons.2 ⟨?_, ?_⟩)) | (intro _; simp [RV.flatP, CD.flatP, getD_map Coin.cd, Coin.cd, idMap_look, idMap_set]; done)) ?_ | refine CallAtG.mk _ (fun _ => f32 ..) ?_ | refine CallDS.mk _ (by simp [RV.data]) (fun _ => f32 ..) (by first | (intro h; cases h; done) | (intro _; repeat' (first | exact List.forall_mem_nil _ | trivial | refine List.forall_mem_cons.2 ⟨?_, ?_⟩)) | (intro _; simp [RV.flatP, CD.flatP, getD_map Coin.cd, Coin.cd, idMap_look, idMap_set]; done)) ?_); try simp (disch := omega) only [go_sem, Nat.reduceLT, Nat.reduceAdd, Nat.reduceSub, Nat.reduceMul, Nat.reduceBEq, Nat.reduceEqDiff, Nat.reduceLeDiff, reduceCtorEq, ↓reduceIte, Nat.beq, Int.reduceToNat, Int.reduceLT, Int.reduceLE, Int.reduceAdd, Int.reduceSub, Int.reduceMul, Int.reduceEq, Int.reduceNeg, Int.reduceNe, Int.toNat_natCast, IntKind.signed, IntKind.bits, Int.reducePow, Nat.reducePow, getD_map Coin.cd, Coin.cd, idMap_look, idMap_set]) | refine And.intro (fun hc => (?_ : AW _ _ _ _)) (fun hc => (?_ : AW _ _ _ _)) | simp (disch := omega) only [go_sem, Nat.reduceLT, Nat.reduceAdd, Nat.reduceSub, Nat.reduceMul, Nat.reduceBEq, Nat.reduceEqDiff, Nat.reduceLeDiff, reduceCtorEq, ↓reduceIte, Nat.beq, Int.reduceToNat, Int.reduceLT, Int.reduceLE, Int.reduceAdd, Int.reduceSub, Int.reduceMul, Int.reduceEq, Int.reduceNeg, Int.reduceNe, Int.toNat_natCast, IntKind.signed, IntKind.bits, Int.reducePow, Nat.reducePow, getD_map Coin.cd, Coin.cd, idMap_look, idMap_set] | (refine And.intro ?_ ?_; focus (first | (intros; omega) | (intros; simp_all; done))) | fail))
      · unfold chk
        rw [if_neg (by omega), if_neg]
        intro h
        rw [List.all_eq_true] at h
        have := h (nth l i) (nth_mem l i (by omega))
        rw [hc] at this; cases this
      · refine ⟨⟨i + 1, by omega, fun j hj => ?_⟩, by simp only []; omega, ⟨by simp, rfl⟩, rfl⟩
        rcases Nat.lt_succ_iff_lt_or_eq.1 hj with h | rfl
        · exact hv j h
        · exact hc
      · unfold chk
        have hil : i = l.length := by omega
        subst hil
        rw [if_neg (by omega), if_pos (all_nth hv), if_pos hc]
      · unfold chk
        have hil : i = l.length := by omega
        subst hil
        rw [if_neg (by omega), if_pos (all_nth hv), if_neg (by simp [hc])]
end Go.Proofs.Ytdbkhiobchkjjaa

open Go Go.AL Go.RowKit
namespace Go.Proofs.Ytdbkhiobchkjjaa

/-! ### function values over coins -/
def coinOf : List CD → Option Coin
  | [.sc (.int .i64 a), .sc (.int .i64 b), .sc (.int .i64 c), .sc (.int .i64 d), .sc (.int .i64 e), .sc (.int .i64 f), .sc (.int .i64 g)] => some ⟨a, b, c, d, e, f, g⟩
  | _ => none
def pfC (is : Coin → Coin → Bool) (us : List (Sum CD (List CD))) : Option Value := match us with
  | [.inr a, .inr b] => match coinOf a, coinOf b with
    | some s, some t => some (.bool (is s t))
    | _, _ => none
  | _ => none
theorem pfC_of (is : Coin → Coin → Bool) (s t : Coin) : pfC is [.inr [.sc (.int .i64 s.id), .sc (.int .i64 s.obv), .sc (.int .i64 s.rev), .sc (.int .i64 s.ost), .sc (.int .i64 s.rst), .sc (.int .i64 s.ax), .sc (.int .i64 s.wt)], .inr [.sc (.int .i64 t.id), .sc (.int .i64 t.obv), .sc (.int .i64 t.rev), .sc (.int .i64 t.ost), .sc (.int .i64 t.rst), .sc (.int .i64 t.ax), .sc (.int .i64 t.wt)]] = some (.bool (is s t)) := rfl
theorem coinOf_some {l : List CD} {s : Coin} (h : coinOf l = some s) : l = s.cd := by
  unfold coinOf at h
  split at h
  · simp at h; subst h; rfl
  · cases h
theorem pfC_inv {is : Coin → Coin → Bool} {us : List (Sum CD (List CD))} {r : Value} (h : pfC is us = some r) : ∃ s t : Coin, us = [.inr s.cd, .inr t.cd] ∧ r = .bool (is s t) := by
  unfold pfC at h
  split at h
  · rename_i a b
    split at h
    · rename_i s t hs ht
      simp at h
      exact ⟨s, t, by rw [coinOf_some hs, coinOf_some ht], h.symm⟩
    · cases h
  · cases h

/-! ### arcs and pairs -/
def two (p : Int × Int) : List CD := [.I p.1, .I p.2]
def rowA (l : List Coin) (is : Coin → Coin → Bool) (i : Nat) (k0 k : Nat) : List (Int × Int) := ((List.range k).filter fun j => decide (k0 ≤ j) && is (nth l i) (nth l j)).map fun (j : Nat) => ((i : Int), (j : Int))
theorem rowA_succ (l : List Coin) (is : Coin → Coin → Bool) (i k0 k : Nat) (h : k0 ≤ k) : rowA l is i k0 (k + 1) = rowA l is i k0 k ++ (if is (nth l i) (nth l k) then [((i : Int), (k : Int))] else []) := by
  simp only [rowA, List.range_succ, List.filter_append, List.map_append, List.filter_cons, List.filter_nil]
  cases is (nth l i) (nth l k) <;> simp [h]
theorem rowA_len (l : List Coin) (is : Coin → Coin → Bool) (i k0 k : Nat) : (rowA l is i k0 k).length ≤ k := by
  simp only [rowA, List.length_map]
  exact Nat.le_trans (List.length_filter_le _ _) (by simp)
theorem rowA_start (l : List Coin) (is : Coin → Coin → Bool) (i k : Nat) : rowA l is i k k = [] := by
  simp only [rowA, List.map_eq_nil_iff, List.filter_eq_nil_iff, List.mem_range]
  intro j hj
  simp; omega
/-- the rows of the places below n; st: only later places -/
def allA (l : List Coin) (is : Coin → Coin → Bool) (st : Bool) (n : Nat) : List (Int × Int) := (List.range n).flatMap fun i => rowA l is i (bif st then i + 1 else 0) l.length
theorem allA_succ (l : List Coin) (is : Coin → Coin → Bool) (st : Bool) (n : Nat) : allA l is st (n + 1) = allA l is st n ++ rowA l is n (bif st then n + 1 else 0) l.length := by
  simp [allA, List.range_succ, List.flatMap_append]
theorem allA_len (l : List Coin) (is : Coin → Coin → Bool) (st : Bool) : ∀ n, (allA l is st n).length ≤ n * l.length
  | 0 => by simp [allA]
  | n + 1 => by
    rw [allA_succ, List.length_append, Nat.add_mul, Nat.one_mul]
    have := allA_len l is st n
    have := rowA_len l is n (bif st then n + 1 else 0) l.length
    omega

set_option maxHeartbeats 1000000 in
theorem f38 (l : List Coin) (is : Coin → Coin → Bool) (hl : l.length ≤ 64) : FnR Try.prog 38 [.c (Coins l), .pf (pfC is)] [.own 35 2 ((allA l is false l.length).map two)] := by
  refine fn_walk code38 (by simp) ?_
  (repeat' (first | refine AW_seq ?_ | refine AW_block ?_ | ((first | refine AW_reg ?_ | refine AW_cond ?_ | refine AW_skip ?_ | refine AW_exit ?_ | refine AW_ret ?_ | refine AW_regD (by kernel_rfl) ?_); try simp (disch := omega) only [go_sem, Nat.reduceLT, Nat.reduceAdd, Nat.reduceSub, Nat.reduceMul, Nat.reduceBEq, Nat.reduceEqDiff, Nat.reduceLeDiff, reduceCtorEq, ↓reduceIte, Nat.beq, Int.reduceToNat, Int.reduceLT, Int.reduceLE, Int.reduceAdd, Int.reduceSub, Int.reduceMul, Int.reduceEq, Int.reduceNeg, Int.reduceNe, Int.toNat_natCast, IntKind.signed, IntKind.bits, Int.reducePow, Nat.reducePow]) | refine And.intro (fun hc => (?_ : AW _ _ _ _)) (fun hc => (?_ : AW _ _ _ _)) | simp (disch := omega) only [go_sem, Nat.reduceLT, Nat.reduceAdd, Nat.reduceSub, Nat.reduceMul, Nat.reduceBEq, Nat.reduceEqDiff, Nat.reduceLeDiff, reduceCtorEq, ↓reduceIte, Nat.beq, Int.reduceToNat, Int.reduceLT, Int.reduceLE, Int.reduceAdd, Int.reduceSub, Int.reduceMul, Int.reduceEq, Int.reduceNeg, Int.reduceNe, Int.toNat_natCast, IntKind.signed, IntKind.bits, Int.reducePow, Nat.reducePow] | (refine And.intro ?_ ?_; focus (first | (intros; omega) | (intros; simp_all; done))) | fail))
  refine AW_nil 5 33 35 2 (by rfl) ?_
  refine AW_loop (ι := {i : Nat // i ≤ l.length}) (fun i => ⟨37, [(0, .c (Coins l)), (1, .pf (pfC is)), (5, .own 33), (10, .c (Coins l)), (11, .I l.length), (12, .I i.1)], [(33, .arr 35 2 ((allA l is false i.1).map two))]⟩) (fun i => l.length - i.1) ⟨0, by omega⟩ ?_ ?_
  · simp (disch := omega) only [go_sem, Nat.reduceLT, Nat.reduceAdd, Nat.reduceSub, Nat.reduceMul, Nat.reduceBEq, Nat.reduceEqDiff, Nat.reduceLeDiff, reduceCtorEq, ↓reduceIte, Nat.beq, Int.reduceToNat, Int.reduceLT, Int.reduceLE, Int.reduceAdd, Int.reduceSub, Int.reduceMul, Int.reduceEq, Int.reduceNeg, Int.reduceNe, Int.toNat_natCast, IntKind.signed, IntKind.bits, Int.reducePow, Nat.reducePow, allA, List.range_zero, List.flatMap_nil, Int.natCast_zero]
  · rintro ⟨i, hi⟩
    (repeat' (first | refine AW_seq ?_ | refine AW_block ?_ | ((first | refine AW_reg ?_ | refine AW_cond ?_ | refine AW_skip ?_ | refine AW_exit ?_ | refine AW_ret ?_ | refine AW_regD (by kernel_rfl) ?_); try simp (disch := omega) only [go_sem, Nat.reduceLT, Nat.reduceAdd, Nat.reduceSub, Nat.reduceMul, Nat.reduceBEq, Nat.reduceEqDiff, Nat.reduceLeDiff, reduceCtorEq, ↓reduceIte, Nat.beq, Int.reduceToNat, Int.reduceLT, Int.reduceLE, Int.reduceAdd, Int.reduceSub, Int.reduceMul, Int.reduceEq, Int.reduceNeg, Int.reduceNe, Int.toNat_natCast, IntKind.signed, IntKind.bits, Int.reducePow, Nat.reducePow, getD_map Coin.cd, Coin.cd]) | refine And.intro (fun hc => (?_ : AW _ _ _ _)) (fun hc => (?_ : AW _ _ _ _)) | simp (disch := omega) only [go_sem, Nat.reduceLT, Nat.reduceAdd, Nat.reduceSub, Nat.reduceMul, Nat.reduceBEq, Nat.reduceEqDiff, Nat.reduceLeDiff, reduceCtorEq, ↓reduceIte, Nat.beq, Int.reduceToNat, Int.reduceLT, Int.reduceLE, Int.reduceAdd, Int.reduceSub, Int.reduceMul, Int.reduceEq, Int.reduceNeg, Int.reduceNe, Int.toNat_natCast, IntKind.signed, IntKind.bits, Int.reducePow, Nat.reducePow, getD_map Coin.cd, Coin.cd] | (refine And.intro ?_ ?_; focus (first | (intros; omega) | (intros; simp_all; done))) | fail))
    · refine AW_loop (ι := {k : Nat // k ≤ l.length}) (fun k => ⟨37, [(0, .c (Coins l)), (1, .pf (pfC is)), (5, .own 33), (6, .I i), (7, .ptr 7 0), (10, .c (Coins l)), (11, .I l.length), (12, .I i), (17, .c (Coins l)), (18, .I l.length), (19, .I k.1)], [(7, .box 23 ((nth l i).cd.map AV.c)), (33, .arr 35 2 ((allA l is false i ++ rowA l is i 0 k.1).map two))]⟩) (fun k => l.length - k.1) ⟨0, by omega⟩ ?_ ?_
      · simp (disch := omega) only [go_sem, Nat.reduceLT, Nat.reduceAdd, Nat.reduceSub, Nat.reduceMul, Nat.reduceBEq, Nat.reduceEqDiff, Nat.reduceLeDiff, reduceCtorEq, ↓reduceIte, Nat.beq, Int.reduceToNat, Int.reduceLT, Int.reduceLE, Int.reduceAdd, Int.reduceSub, Int.reduceMul, Int.reduceEq, Int.reduceNeg, Int.reduceNe, Int.toNat_natCast, IntKind.signed, IntKind.bits, Int.reducePow, Nat.reducePow, rowA_start, Int.natCast_zero, Coin.cd]
      · rintro ⟨k, hk⟩
        have hb := allA_len l is false i
        have hb2 := rowA_len l is i 0 k
        have hb3 : i * l.length ≤ 64 * 64 := Nat.mul_le_mul (by omega) hl
        (repeat' (first | refine AW_seq ?_ | refine AW_block ?_ | ((first | refine AW_reg ?_ | refine AW_cond ?_ | refine AW_skip ?_ | refine AW_exit ?_ | refine AW_ret ?_ | refine AW_regD (by kernel_rfl) ?_); try simp (disch := omega) only [go_sem, Nat.reduceLT, Nat.reduceAdd, Nat.reduceSub, Nat.reduceMul, Nat.reduceBEq, Nat.reduceEqDiff, Nat.reduceLeDiff, reduceCtorEq, ↓reduceIte, Nat.beq, Int.reduceToNat, Int.reduceLT, Int.reduceLE, Int.reduceAdd, Int.reduceSub, Int.reduceMul, Int.reduceEq, Int.reduceNeg, Int.reduceNe, Int.toNat_natCast, IntKind.signed, IntKind.bits, Int.reducePow, Nat.reducePow, getD_map Coin.cd, Coin.cd, List.length_append, pfC_of, maxLen]) | refine And.intro (fun hc => (?_ : AW _ _ _ _)) (fun hc => (?_ : AW _ _ _ _)) | simp (disch := omega) only [go_sem, Nat.reduceLT, Nat.reduceAdd, Nat.reduceSub, Nat.reduceMul, Nat.reduceBEq, Nat.reduceEqDiff, Nat.reduceLeDiff, reduceCtorEq, ↓reduceIte, Nat.beq, Int.reduceToNat, Int.reduceLT, Int.reduceLE, Int.reduceAdd, Int.reduceSub, Int.reduceMul, Int.reduceEq, Int.reduceNeg, Int.reduceNe, Int.toNat_natCast, IntKind.signed, IntKind.bits, Int.reducePow, Nat.reducePow, getD_map Coin.cd, Coin.cd, List.length_append, pfC_of, maxLen] | (refine And.intro ?_ ?_; focus (first | (intros; omega) | (intros; simp_all; done))) | fail))
        · refine ⟨⟨k + 1, by omega⟩, by simp only []; omega, by simp, ?_⟩
          simp [rowA_succ, hc, two]
        · refine ⟨⟨k + 1, by omega⟩, by simp only []; omega, by simp, ?_⟩
          simp [rowA_succ, hc]
        · have hkl : k = l.length := by omega
          subst hkl
          refine ⟨⟨i + 1, by omega⟩, by simp only []; omega, by simp, ?_⟩
          simp [allA_succ]
    · have hil : i = l.length := by omega
      rw [hil]
set_option maxHeartbeats 1000000 in
theorem f42 (l : List Coin) (is : Coin → Coin → Bool) (hl : l.length ≤ 64) : FnR Try.prog 42 [.c (Coins l), .pf (pfC is)] [.own 45 2 ((allA l is true l.length).map two)] := by
  refine fn_walk code42 (by simp) ?_
  (repeat' (first | refine AW_seq ?_ | refine AW_block ?_ | ((first | refine AW_reg ?_ | refine AW_cond ?_ | refine AW_skip ?_ | refine AW_exit ?_ | refine AW_ret ?_ | refine AW_regD (by kernel_rfl) ?_); try simp (disch := omega) only [go_sem, Nat.reduceLT, Nat.reduceAdd, Nat.reduceSub, Nat.reduceMul, Nat.reduceBEq, Nat.reduceEqDiff, Nat.reduceLeDiff, reduceCtorEq, ↓reduceIte, Nat.beq, Int.reduceToNat, Int.reduceLT, Int.reduceLE, Int.reduceAdd, Int.reduceSub, Int.reduceMul, Int.reduceEq, Int.reduceNeg, Int.reduceNe, Int.toNat_natCast, IntKind.signed, IntKind.bits, Int.reducePow, Nat.reducePow]) | refine And.intro (fun hc => (?_ : AW _ _ _ _)) (fun hc => (?_ : AW _ _ _ _)) | simp (disch := omega) only [go_sem, Nat.reduceLT, Nat.reduceAdd, Nat.reduceSub, Nat.reduceMul, Nat.reduceBEq, Nat.reduceEqDiff, Nat.reduceLeDiff, reduceCtorEq, ↓reduceIte, Nat.beq, Int.reduceToNat, Int.reduceLT, Int.reduceLE, Int.reduceAdd, Int.reduceSub, Int.reduceMul, Int.reduceEq, Int.reduceNeg, Int.reduceNe, Int.toNat_natCast, IntKind.signed, IntKind.bits, Int.reducePow, Nat.reducePow] | (refine And.intro ?_ ?_; focus (first | (intros; omega) | (intros; simp_all; done))) | fail))
  refine AW_nil 5 36 45 2 (by rfl) ?_
  refine AW_loop (ι := {i : Nat // i ≤ l.length}) (fun i => ⟨39, [(0, .c (Coins l)), (1, .pf (pfC is)), (5, .own 36), (9, .c (Coins l)), (10, .I l.length), (11, .I i.1)], [(36, .arr 45 2 ((allA l is true i.1).map two))]⟩) (fun i => l.length - i.1) ⟨0, by omega⟩ ?_ ?_
  · simp (disch := omega) only [go_sem, Nat.reduceLT, Nat.reduceAdd, Nat.reduceSub, Nat.reduceMul, Nat.reduceBEq, Nat.reduceEqDiff, Nat.reduceLeDiff, reduceCtorEq, ↓reduceIte, Nat.beq, Int.reduceToNat, Int.reduceLT, Int.reduceLE, Int.reduceAdd, Int.reduceSub, Int.reduceMul, Int.reduceEq, Int.reduceNeg, Int.reduceNe, Int.toNat_natCast, IntKind.signed, IntKind.bits, Int.reducePow, Nat.reducePow, allA, List.range_zero, List.flatMap_nil, Int.natCast_zero]
  · rintro ⟨i, hi⟩
    (repeat' (first | refine AW_seq ?_ | refine AW_block ?_ | ((first | refine AW_reg ?_ | refine AW_cond ?_ | refine AW_skip ?_ | refine AW_exit ?_ | refine AW_ret ?_ | refine AW_regD (by kernel_rfl) ?_); try simp (disch := omega) only [go_sem, Nat.reduceLT, Nat.reduceAdd, Nat.reduceSub, Nat.reduceMul, Nat.reduceBEq, Nat.reduceEqDiff, Nat.reduceLeDiff, reduceCtorEq, ↓reduceIte, Nat.beq, Int.reduceToNat, Int.reduceLT, Int.reduceLE, Int.reduceAdd, Int.reduceSub, Int.reduceMul, Int.reduceEq, Int.reduceNeg, Int.reduceNe, Int.toNat_natCast, IntKind.signed, IntKind.bits, Int.reducePow, Nat.reducePow, getD_map Coin.cd, Coin.cd]) | refine And.intro (fun hc => (?_ : AW _ _ _ _)) (fun hc => (?_ : AW _ _ _ _)) | simp (disch := omega) only [go_sem, Nat.reduceLT, Nat.reduceAdd, Nat.reduceSub, Nat.reduceMul, Nat.reduceBEq, Nat.reduceEqDiff, Nat.reduceLeDiff, reduceCtorEq, ↓reduceIte, Nat.beq, Int.reduceToNat, Int.reduceLT, Int.reduceLE, Int.reduceAdd, Int.reduceSub, Int.reduceMul, Int.reduceEq, Int.reduceNeg, Int.reduceNe, Int.toNat_natCast, IntKind.signed, IntKind.bits, Int.reducePow, Nat.reducePow, getD_map Coin.cd, Coin.cd] | (refine And.intro ?_ ?_; focus (first | (intros; omega) | (intros; simp_all; done))) | fail))
    · refine AW_loop (ι := {k : Nat // i + 1 ≤ k ∧ k ≤ l.length}) (fun k => ⟨39, [(0, .c (Coins l)), (1, .pf (pfC is)), (5, .own 36), (6, .I i), (7, .ptr 7 0), (9, .c (Coins l)), (10, .I l.length), (11, .I i), (8, .I k.1)], [(7, .box 23 ((nth l i).cd.map AV.c)), (36, .arr 45 2 ((allA l is true i ++ rowA l is i (i + 1) k.1).map two))]⟩) (fun k => l.length - k.1) ⟨i + 1, by omega⟩ ?_ ?_
      · simp (disch := omega) only [go_sem, Nat.reduceLT, Nat.reduceAdd, Nat.reduceSub, Nat.reduceMul, Nat.reduceBEq, Nat.reduceEqDiff, Nat.reduceLeDiff, reduceCtorEq, ↓reduceIte, Nat.beq, Int.reduceToNat, Int.reduceLT, Int.reduceLE, Int.reduceAdd, Int.reduceSub, Int.reduceMul, Int.reduceEq, Int.reduceNeg, Int.reduceNe, Int.toNat_natCast, IntKind.signed, IntKind.bits, Int.reducePow, Nat.reducePow, rowA_start, Int.natCast_add, Int.natCast_one, Int.cast_ofNat_Int, Coin.cd]
      · rintro ⟨k, hk1, hk⟩
        have hb := allA_len l is true i
        have hb2 := rowA_len l is i (i + 1) k
        have hb3 : i * l.length ≤ 64 * 64 := Nat.mul_le_mul (by omega) hl
        (repeat' (first | refine AW_seq ?_ | refine AW_block ?_ | ((first | refine AW_reg ?_ | refine AW_cond ?_ | refine AW_skip ?_ | refine AW_exit ?_ | refine AW_ret ?_ | refine AW_regD (by kernel_rfl) ?_ | refine CallPS.mk _ (fun _ => pfC_of ..) ?_); try simp (disch := omega) only [go_sem, Nat.reduceLT, Nat.reduceAdd, Nat.reduceSub, Nat.reduceMul, Nat.reduceBEq, Nat.reduceEqDiff, Nat.reduceLeDiff, reduceCtorEq, ↓reduceIte, Nat.beq, Int.reduceToNat, Int.reduceLT, Int.reduceLE, Int.reduceAdd, Int.reduceSub, Int.reduceMul, Int.reduceEq, Int.reduceNeg, Int.reduceNe, Int.toNat_natCast, IntKind.signed, IntKind.bits, Int.reducePow, Nat.reducePow, getD_map Coin.cd, Coin.cd, List.length_append, maxLen]) | refine And.intro (fun hc => (?_ : AW _ _ _ _)) (fun hc => (?_ : AW _ _ _ _)) | simp (disch := omega) only [go_sem, Nat.reduceLT, Nat.reduceAdd, Nat.reduceSub, Nat.reduceMul, Nat.reduceBEq, Nat.reduceEqDiff, Nat.reduceLeDiff, reduceCtorEq, ↓reduceIte, Nat.beq, Int.reduceToNat, Int.reduceLT, Int.reduceLE, Int.reduceAdd, Int.reduceSub, Int.reduceMul, Int.reduceEq, Int.reduceNeg, Int.reduceNe, Int.toNat_natCast, IntKind.signed, IntKind.bits, Int.reducePow, Nat.reducePow, getD_map Coin.cd, Coin.cd, List.length_append, maxLen] | (refine And.intro ?_ ?_; focus (first | (intros; omega) | (intros; simp_all; done))) | fail))
        · refine ⟨⟨k + 1, by omega⟩, by simp only []; omega, by simp, ?_⟩
          simp [rowA_succ, hc, two, hk1]
        · refine ⟨⟨k + 1, by omega⟩, by simp only []; omega, by simp, ?_⟩
          simp [rowA_succ, hc, hk1]
        · have hkl : k = l.length := by omega
          subst hkl
          refine ⟨⟨i + 1, by omega⟩, by simp only []; omega, by simp, ?_⟩
          simp [allA_succ]
    · have hil : i = l.length := by omega
      rw [hil]
end Go.Proofs.Ytdbkhiobchkjjaa

open Go Go.AL Go.RowKit
namespace Go.Proofs.Ytdbkhiobchkjjaa

theorem chk_len {l : List Coin} (h : chk l = 0) : l.length ≤ 64 := by
  unfold chk at h; split at h
  · cases h
  · omega
theorem two_flat (L : List (Int × Int)) : ∀ x ∈ L.map two, ∀ d ∈ x, CD.flatP d := by
  intro x hx d hd
  obtain ⟨p, _, rfl⟩ := List.mem_map.1 hx
  simp [two] at hd
  rcases hd with rfl | rfl <;> trivial

theorem f39 (s t : Coin) (of : Int) : FnR Try.prog 39 [s.av, t.av, .dptr [.I of]] [.c (.B (before s t of))] := by
  refine fn_walk code39 (by simp) ?_
  (repeat' (first | refine AW_seq ?_ | refine AW_block ?_ | ((first | refine AW_reg ?_ | refine AW_cond ?_ | refine AW_skip ?_ | refine AW_exit ?_ | refine AW_ret ?_ | refine AW_regD (by kernel_rfl) ?_ | refine CallAt.mk _ (f40 ..) (by first | (intro h; cases h; done) | (intro _; repeat' (first | exact List.forall_mem_nil _ | trivial | refine List.forall_mem_cons.2 ⟨?_, ?_⟩)) | (intro _; simp [RV.flatP, CD.flatP]; done)) ?_ | refine CallAtG.mk _ (fun _ => f40 ..) ?_ | refine CallDS.mk _ (by simp [RV.data]) (fun _ => f40 ..) (by first | (intro h; cases h; done) | (intro _; repeat' (first | exact List.forall_mem_nil _ | trivial | refine List.forall_mem_cons.2 ⟨?_, ?_⟩)) | (intro _; simp [RV.flatP, CD.flatP]; done)) ?_); try simp (disch := omega) only [go_sem, Nat.reduceLT, Nat.reduceAdd, Nat.reduceSub, Nat.reduceMul, Nat.reduceBEq, Nat.reduceEqDiff, Nat.reduceLeDiff, reduceCtorEq, ↓reduceIte, Nat.beq, Int.reduceToNat, Int.reduceLT, Int.reduceLE, Int.reduceAdd, Int.reduceSub, Int.reduceMul, Int.reduceEq, Int.reduceNeg, Int.reduceNe, Int.toNat_natCast, IntKind.signed, IntKind.bits, Int.reducePow, Nat.reducePow]) | refine And.intro (fun hc => (?_ : AW _ _ _ _)) (fun hc => (?_ : AW _ _ _ _)) | simp (disch := omega) only [go_sem, Nat.reduceLT, Nat.reduceAdd, Nat.reduceSub, Nat.reduceMul, Nat.reduceBEq, Nat.reduceEqDiff, Nat.reduceLeDiff, reduceCtorEq, ↓reduceIte, Nat.beq, Int.reduceToNat, Int.reduceLT, Int.reduceLE, Int.reduceAdd, Int.reduceSub, Int.reduceMul, Int.reduceEq, Int.reduceNeg, Int.reduceNe, Int.toNat_natCast, IntKind.signed, IntKind.bits, Int.reducePow, Nat.reducePow] | (refine And.intro ?_ ?_; focus (first | (intros; omega) | (intros; simp_all; done))) | fail))
def clash (s t : Coin) : Bool := before s t 0 && before t s 1 || before t s 0 && before s t 1
theorem f43 (s t : Coin) : FnR Try.prog 43 [s.av, t.av] [.c (.B (clash s t))] := by
  refine fn_walk code43 (by simp) ?_
  unfold clash
  (repeat' (first | refine AW_seq ?_ | refine AW_block ?_ | ((first | refine AW_reg ?_ | refine AW_cond ?_ | refine AW_skip ?_ | refine AW_exit ?_ | refine AW_ret ?_ | refine AW_regD (by kernel_rfl) ?_ | refine CallAt.mk _ (f40 ..) (by first | (intro h; cases h; done) | (intro _; repeat' (first | exact List.forall_mem_nil _ | trivial | refine List.forall_mem_cons.2 ⟨?_, ?_⟩)) | (intro _; simp [RV.flatP, CD.flatP]; done)) ?_ | refine CallAtG.mk _ (fun _ => f40 ..) ?_ | refine CallDS.mk _ (by simp [RV.data]) (fun _ => f40 ..) (by first | (intro h; cases h; done) | (intro _; repeat' (first | exact List.forall_mem_nil _ | trivial | refine List.forall_mem_cons.2 ⟨?_, ?_⟩)) | (intro _; simp [RV.flatP, CD.flatP]; done)) ?_); try simp (disch := omega) only [go_sem, Nat.reduceLT, Nat.reduceAdd, Nat.reduceSub, Nat.reduceMul, Nat.reduceBEq, Nat.reduceEqDiff, Nat.reduceLeDiff, reduceCtorEq, ↓reduceIte, Nat.beq, Int.reduceToNat, Int.reduceLT, Int.reduceLE, Int.reduceAdd, Int.reduceSub, Int.reduceMul, Int.reduceEq, Int.reduceNeg, Int.reduceNe, Int.toNat_natCast, IntKind.signed, IntKind.bits, Int.reducePow, Nat.reducePow]) | refine And.intro (fun hc => (?_ : AW _ _ _ _)) (fun hc => (?_ : AW _ _ _ _)) | simp (disch := omega) only [go_sem, Nat.reduceLT, Nat.reduceAdd, Nat.reduceSub, Nat.reduceMul, Nat.reduceBEq, Nat.reduceEqDiff, Nat.reduceLeDiff, reduceCtorEq, ↓reduceIte, Nat.beq, Int.reduceToNat, Int.reduceLT, Int.reduceLE, Int.reduceAdd, Int.reduceSub, Int.reduceMul, Int.reduceEq, Int.reduceNeg, Int.reduceNe, Int.toNat_natCast, IntKind.signed, IntKind.bits, Int.reducePow, Nat.reducePow] | (refine And.intro ?_ ?_; focus (first | (intros; omega) | (intros; simp_all; done))) | fail))
theorem f38b (l : List Coin) (of : Int) (hl : l.length ≤ 64) : FnR Try.prog 38 [.c (Coins l), .fn 39 [.dptr [.I of]]] [.own 35 2 ((allA l (fun s t => before s t of) false l.length).map two)] :=
  FnR_pf (pre := [.c (Coins l)]) (post := []) (fnCode_callB code39) (fun us r h => by obtain ⟨s, t, _, rfl⟩ := pfC_inv h; trivial)
    (fun us r h => by obtain ⟨s, t, rfl, rfl⟩ := pfC_inv h; exact f39 s t of) (f38 l (fun s t => before s t of) hl)
theorem f42b (l : List Coin) (hl : l.length ≤ 64) : FnR Try.prog 42 [.c (Coins l), .fn 43 []] [.own 45 2 ((allA l clash true l.length).map two)] :=
  FnR_pf (pre := [.c (Coins l)]) (post := []) (fnCode_callB code43) (fun us r h => by obtain ⟨s, t, _, rfl⟩ := pfC_inv h; trivial)
    (fun us r h => by obtain ⟨s, t, rfl, rfl⟩ := pfC_inv h; exact f43 s t) (f42 l clash hl)

def befE (l : List Coin) (of : Int) : Int := if chk l ≠ 0 then chk l else if of ≠ 0 ∧ of ≠ 1 then 2 else 0
def befL (l : List Coin) (of : Int) : List (Int × Int) := if befE l of ≠ 0 then [] else allA l (fun s t => before s t of) false l.length
theorem f14 (l : List Coin) (of : Int) : FnR Try.prog 14 [.c (Coins l), .I of] [.own 35 2 ((befL l of).map two), .c (.I (befE l of))] := by
  refine fn_walk code14 (by simp) ?_
  (repeat' (first | refine AW_seq ?_ | refine AW_block ?_ | ((first | refine AW_reg ?_ | refine AW_cond ?_ | refine AW_skip ?_ | refine AW_exit ?_ | refine AW_ret ?_ | refine AW_regD (by kernel_rfl) ?_ | refine CallAt.mk _ (f37 ..) (by first | (intro h; cases h; done) | (intro _; repeat' (first | exact List.forall_mem_nil _ | trivial | refine List.forall_mem_cons.2 ⟨?_, ?_⟩)) | (intro _; simp [RV.flatP, CD.flatP]; done)) ?_ | refine CallAtG.mk _ (fun _ => f37 ..) ?_ | refine CallDS.mk _ (by simp [RV.data]) (fun _ => f37 ..) (by first | (intro h; cases h; done) | (intro _; repeat' (first | exact List.forall_mem_nil _ | trivial | refine List.forall_mem_cons.2 ⟨?_, ?_⟩)) | (intro _; simp [RV.flatP, CD.flatP]; done)) ?_); try simp (disch := omega) only [go_sem, Nat.reduceLT, Nat.reduceAdd, Nat.reduceSub, Nat.reduceMul, Nat.reduceBEq, Nat.reduceEqDiff, Nat.reduceLeDiff, reduceCtorEq, ↓reduceIte, Nat.beq, Int.reduceToNat, Int.reduceLT, Int.reduceLE, Int.reduceAdd, Int.reduceSub, Int.reduceMul, Int.reduceEq, Int.reduceNeg, Int.reduceNe, Int.toNat_natCast, IntKind.signed, IntKind.bits, Int.reducePow, Nat.reducePow]) | refine And.intro (fun hc => (?_ : AW _ _ _ _)) (fun hc => (?_ : AW _ _ _ _)) | simp (disch := omega) only [go_sem, Nat.reduceLT, Nat.reduceAdd, Nat.reduceSub, Nat.reduceMul, Nat.reduceBEq, Nat.reduceEqDiff, Nat.reduceLeDiff, reduceCtorEq, ↓reduceIte, Nat.beq, Int.reduceToNat, Int.reduceLT, Int.reduceLE, Int.reduceAdd, Int.reduceSub, Int.reduceMul, Int.reduceEq, Int.reduceNeg, Int.reduceNe, Int.toNat_natCast, IntKind.signed, IntKind.bits, Int.reducePow, Nat.reducePow] | (refine And.intro ?_ ?_; focus (first | (intros; omega) | (intros; simp_all; done))) | fail))
  · simp [befL, befE, hc]
  · rename_i h0
    simp [befL, befE, hc, h0]
  · refine CallAt.mk _ (f38b l of (chk_len (by assumption))) (fun _ r hr => by simp at hr; subst hr; exact two_flat _) ?_
    (repeat' (first | refine AW_seq ?_ | refine AW_block ?_ | ((first | refine AW_reg ?_ | refine AW_cond ?_ | refine AW_skip ?_ | refine AW_exit ?_ | refine AW_ret ?_ | refine AW_regD (by kernel_rfl) ?_); try simp (disch := omega) only [go_sem, Nat.reduceLT, Nat.reduceAdd, Nat.reduceSub, Nat.reduceMul, Nat.reduceBEq, Nat.reduceEqDiff, Nat.reduceLeDiff, reduceCtorEq, ↓reduceIte, Nat.beq, Int.reduceToNat, Int.reduceLT, Int.reduceLE, Int.reduceAdd, Int.reduceSub, Int.reduceMul, Int.reduceEq, Int.reduceNeg, Int.reduceNe, Int.toNat_natCast, IntKind.signed, IntKind.bits, Int.reducePow, Nat.reducePow]) | refine And.intro (fun hc => (?_ : AW _ _ _ _)) (fun hc => (?_ : AW _ _ _ _)) | simp (disch := omega) only [go_sem, Nat.reduceLT, Nat.reduceAdd, Nat.reduceSub, Nat.reduceMul, Nat.reduceBEq, Nat.reduceEqDiff, Nat.reduceLeDiff, reduceCtorEq, ↓reduceIte, Nat.beq, Int.reduceToNat, Int.reduceLT, Int.reduceLE, Int.reduceAdd, Int.reduceSub, Int.reduceMul, Int.reduceEq, Int.reduceNeg, Int.reduceNe, Int.toNat_natCast, IntKind.signed, IntKind.bits, Int.reducePow, Nat.reducePow] | (refine And.intro ?_ ?_; focus (first | (intros; omega) | (intros; simp_all; done))) | fail))
    rename_i h0
    have : ¬ (of ≠ 0 ∧ of ≠ 1) := by omega
    simp [befL, befE, h0, this]
theorem f21 (l : List Coin) : FnR Try.prog 21 [.c (Coins l)] [.own 45 2 (if chk l ≠ 0 then [] else (allA l clash true l.length).map two), .c (.I (chk l))] := by
  refine fn_walk code21 (by simp) ?_
  (repeat' (first | refine AW_seq ?_ | refine AW_block ?_ | ((first | refine AW_reg ?_ | refine AW_cond ?_ | refine AW_skip ?_ | refine AW_exit ?_ | refine AW_ret ?_ | refine AW_regD (by kernel_rfl) ?_ | refine CallAt.mk _ (f37 ..) (by first | (intro h; cases h; done) | (intro _; repeat' (first | exact List.forall_mem_nil _ | trivial | refine List.forall_mem_cons.2 ⟨?_, ?_⟩)) | (intro _; simp [RV.flatP, CD.flatP]; done)) ?_ | refine CallAtG.mk _ (fun _ => f37 ..) ?_ | refine CallDS.mk _ (by simp [RV.data]) (fun _ => f37 ..) (by first | (intro h; cases h; done) | (intro _; repeat' (first | exact List.forall_mem_nil _ | trivial | refine List.forall_mem_cons.2 ⟨?_, ?_⟩)) | (intro _; simp [RV.flatP, CD.flatP]; done)) ?_); try simp (disch := omega) only [go_sem, Nat.reduceLT, Nat.reduceAdd, Nat.reduceSub, Nat.reduceMul, Nat.reduceBEq, Nat.reduceEqDiff, Nat.reduceLeDiff, reduceCtorEq, ↓reduceIte, Nat.beq, Int.reduceToNat, Int.reduceLT, Int.reduceLE, Int.reduceAdd, Int.reduceSub, Int.reduceMul, Int.reduceEq, Int.reduceNeg, Int.reduceNe, Int.toNat_natCast, IntKind.signed, IntKind.bits, Int.reducePow, Nat.reducePow]) | refine And.intro (fun hc => (?_ : AW _ _ _ _)) (fun hc => (?_ : AW _ _ _ _)) | simp (disch := omega) only [go_sem, Nat.reduceLT, Nat.reduceAdd, Nat.reduceSub, Nat.reduceMul, Nat.reduceBEq, Nat.reduceEqDiff, Nat.reduceLeDiff, reduceCtorEq, ↓reduceIte, Nat.beq, Int.reduceToNat, Int.reduceLT, Int.reduceLE, Int.reduceAdd, Int.reduceSub, Int.reduceMul, Int.reduceEq, Int.reduceNeg, Int.reduceNe, Int.toNat_natCast, IntKind.signed, IntKind.bits, Int.reducePow, Nat.reducePow] | (refine And.intro ?_ ?_; focus (first | (intros; omega) | (intros; simp_all; done))) | fail))
  · simp [hc]
  · refine CallAt.mk _ (f42b l (chk_len hc)) (fun _ r hr => by simp at hr; subst hr; exact two_flat _) ?_
    (repeat' (first | refine AW_seq ?_ | refine AW_block ?_ | ((first | refine AW_reg ?_ | refine AW_cond ?_ | refine AW_skip ?_ | refine AW_exit ?_ | refine AW_ret ?_ | refine AW_regD (by kernel_rfl) ?_); try simp (disch := omega) only [go_sem, Nat.reduceLT, Nat.reduceAdd, Nat.reduceSub, Nat.reduceMul, Nat.reduceBEq, Nat.reduceEqDiff, Nat.reduceLeDiff, reduceCtorEq, ↓reduceIte, Nat.beq, Int.reduceToNat, Int.reduceLT, Int.reduceLE, Int.reduceAdd, Int.reduceSub, Int.reduceMul, Int.reduceEq, Int.reduceNeg, Int.reduceNe, Int.toNat_natCast, IntKind.signed, IntKind.bits, Int.reducePow, Nat.reducePow]) | refine And.intro (fun hc => (?_ : AW _ _ _ _)) (fun hc => (?_ : AW _ _ _ _)) | simp (disch := omega) only [go_sem, Nat.reduceLT, Nat.reduceAdd, Nat.reduceSub, Nat.reduceMul, Nat.reduceBEq, Nat.reduceEqDiff, Nat.reduceLeDiff, reduceCtorEq, ↓reduceIte, Nat.beq, Int.reduceToNat, Int.reduceLT, Int.reduceLE, Int.reduceAdd, Int.reduceSub, Int.reduceMul, Int.reduceEq, Int.reduceNeg, Int.reduceNe, Int.toNat_natCast, IntKind.signed, IntKind.bits, Int.reducePow, Nat.reducePow] | (refine And.intro ?_ ?_; focus (first | (intros; omega) | (intros; simp_all; done))) | fail))
    simp [hc]
def three : List Coin := [⟨1, 1, 1, 1, 2, 0, 1⟩, ⟨2, 1, 1, 2, 1, 0, 1⟩, ⟨3, 1, 5, 2, 1, 0, 1⟩]
theorem f31 : FnR Try.prog 31 [] [.c (Coins three)] := by
  refine fn_walk code31 (by simp) ?_
  (repeat' (first | refine AW_seq ?_ | refine AW_block ?_ | ((first | refine AW_reg ?_ | refine AW_cond ?_ | refine AW_skip ?_ | refine AW_exit ?_ | refine AW_ret ?_ | refine AW_regD (by kernel_rfl) ?_); try simp (disch := omega) only [go_sem, Nat.reduceLT, Nat.reduceAdd, Nat.reduceSub, Nat.reduceMul, Nat.reduceBEq, Nat.reduceEqDiff, Nat.reduceLeDiff, reduceCtorEq, ↓reduceIte, Nat.beq, Int.reduceToNat, Int.reduceLT, Int.reduceLE, Int.reduceAdd, Int.reduceSub, Int.reduceMul, Int.reduceEq, Int.reduceNeg, Int.reduceNe, Int.toNat_natCast, IntKind.signed, IntKind.bits, Int.reducePow, Nat.reducePow]) | refine And.intro (fun hc => (?_ : AW _ _ _ _)) (fun hc => (?_ : AW _ _ _ _)) | simp (disch := omega) only [go_sem, Nat.reduceLT, Nat.reduceAdd, Nat.reduceSub, Nat.reduceMul, Nat.reduceBEq, Nat.reduceEqDiff, Nat.reduceLeDiff, reduceCtorEq, ↓reduceIte, Nat.beq, Int.reduceToNat, Int.reduceLT, Int.reduceLE, Int.reduceAdd, Int.reduceSub, Int.reduceMul, Int.reduceEq, Int.reduceNeg, Int.reduceNe, Int.toNat_natCast, IntKind.signed, IntKind.bits, Int.reducePow, Nat.reducePow] | (refine And.intro ?_ ?_; focus (first | (intros; omega) | (intros; simp_all; done))) | fail))
  rfl
theorem eq_of_nth {α : Type} [Inhabited α] {a b : List α} (hl : a.length = b.length) (h : ∀ j, j < a.length → nth a j = nth b j) : a = b := by
  apply List.ext_getElem hl
  intro i h1 h2
  have := h i h1
  rwa [nth_eq a i h1, nth_eq b i h2] at this
def one (n : Int) : List CD := [.I n]
theorem coin_ext {s t : Coin} (h : s.id = t.id ∧ s.obv = t.obv ∧ s.rev = t.rev ∧ s.ost = t.ost ∧ s.rst = t.rst ∧ s.ax = t.ax ∧ s.wt = t.wt) : s = t := by
  cases s; cases t; simp at h; simp [h]
theorem f19 (a b : List (Int × Int)) : FnR Try.prog 19 [.c (.sl 2 (a.map two)), .c (.sl 2 (b.map two))] [.c (.B (decide (a = b)))] := by
  refine FnR_len (pre := []) (fnCode_callB code19) fun hlen => ?_
  simp only [List.length_map, maxLen] at hlen
  refine fn_walk code19 (by simp) ?_
  (repeat' (first | refine AW_seq ?_ | refine AW_block ?_ | ((first | refine AW_reg ?_ | refine AW_cond ?_ | refine AW_skip ?_ | refine AW_exit ?_ | refine AW_ret ?_ | refine AW_regD (by kernel_rfl) ?_); try simp (disch := omega) only [go_sem, Nat.reduceLT, Nat.reduceAdd, Nat.reduceSub, Nat.reduceMul, Nat.reduceBEq, Nat.reduceEqDiff, Nat.reduceLeDiff, reduceCtorEq, ↓reduceIte, Nat.beq, Int.reduceToNat, Int.reduceLT, Int.reduceLE, Int.reduceAdd, Int.reduceSub, Int.reduceMul, Int.reduceEq, Int.reduceNeg, Int.reduceNe, Int.toNat_natCast, IntKind.signed, IntKind.bits, Int.reducePow, Nat.reducePow]) | refine And.intro (fun hc => (?_ : AW _ _ _ _)) (fun hc => (?_ : AW _ _ _ _)) | simp (disch := omega) only [go_sem, Nat.reduceLT, Nat.reduceAdd, Nat.reduceSub, Nat.reduceMul, Nat.reduceBEq, Nat.reduceEqDiff, Nat.reduceLeDiff, reduceCtorEq, ↓reduceIte, Nat.beq, Int.reduceToNat, Int.reduceLT, Int.reduceLE, Int.reduceAdd, Int.reduceSub, Int.reduceMul, Int.reduceEq, Int.reduceNeg, Int.reduceNe, Int.toNat_natCast, IntKind.signed, IntKind.bits, Int.reducePow, Nat.reducePow] | (refine And.intro ?_ ?_; focus (first | (intros; omega) | (intros; simp_all; done))) | fail))
  · simp; intro h; subst h; exact hc rfl
  · have hl : a.length = b.length := by omega
    refine AW_loop (ι := {i : Nat // i ≤ a.length ∧ ∀ j, j < i → nth a j = nth b j}) (fun i => ⟨26, [(0, .c (.sl 2 (a.map two))), (1, .c (.sl 2 (b.map two))), (5, .I i.1)], []⟩) (fun i => a.length - i.1) ⟨0, by omega, by omega⟩ ?_ ?_
    · simp (disch := omega) only [go_sem, Nat.reduceLT, Nat.reduceAdd, Nat.reduceSub, Nat.reduceMul, Nat.reduceBEq, Nat.reduceEqDiff, Nat.reduceLeDiff, reduceCtorEq, ↓reduceIte, Nat.beq, Int.reduceToNat, Int.reduceLT, Int.reduceLE, Int.reduceAdd, Int.reduceSub, Int.reduceMul, Int.reduceEq, Int.reduceNeg, Int.reduceNe, Int.toNat_natCast, IntKind.signed, IntKind.bits, Int.reducePow, Nat.reducePow, Int.natCast_zero]
    · rintro ⟨i, hi, hv⟩
      (repeat' (first | refine AW_seq ?_ | refine AW_block ?_ | ((first | refine AW_reg ?_ | refine AW_cond ?_ | refine AW_skip ?_ | refine AW_exit ?_ | refine AW_ret ?_ | refine AW_regD (by kernel_rfl) ?_); try simp (disch := omega) only [go_sem, Nat.reduceLT, Nat.reduceAdd, Nat.reduceSub, Nat.reduceMul, Nat.reduceBEq, Nat.reduceEqDiff, Nat.reduceLeDiff, reduceCtorEq, ↓reduceIte, Nat.beq, Int.reduceToNat, Int.reduceLT, Int.reduceLE, Int.reduceAdd, Int.reduceSub, Int.reduceMul, Int.reduceEq, Int.reduceNeg, Int.reduceNe, Int.toNat_natCast, IntKind.signed, IntKind.bits, Int.reducePow, Nat.reducePow, getD_map two, two]) | refine And.intro (fun hc => (?_ : AW _ _ _ _)) (fun hc => (?_ : AW _ _ _ _)) | simp (disch := omega) only [go_sem, Nat.reduceLT, Nat.reduceAdd, Nat.reduceSub, Nat.reduceMul, Nat.reduceBEq, Nat.reduceEqDiff, Nat.reduceLeDiff, reduceCtorEq, ↓reduceIte, Nat.beq, Int.reduceToNat, Int.reduceLT, Int.reduceLE, Int.reduceAdd, Int.reduceSub, Int.reduceMul, Int.reduceEq, Int.reduceNeg, Int.reduceNe, Int.toNat_natCast, IntKind.signed, IntKind.bits, Int.reducePow, Nat.reducePow, getD_map two, two] | (refine And.intro ?_ ?_; focus (first | (intros; omega) | (intros; simp_all; done))) | fail))
      · symm; simp only [decide_eq_false_iff_not]; intro h; subst h; simp at hc
      · refine ⟨⟨i + 1, by omega, fun j hj => ?_⟩, by simp only []; omega, by simp⟩
        rcases Nat.lt_succ_iff_lt_or_eq.1 hj with h | rfl
        · exact hv j h
        · exact Prod.ext hc.1 hc.2
      · symm; simp only [decide_eq_true_eq]; exact eq_of_nth hl fun j hj => hv j (by omega)
theorem f27 (a b : List (Int × Int)) : FnR Try.prog 27 [.c (.sl 2 (a.map two)), .c (.sl 2 (b.map two))] [.c (.B (decide (a = b)))] := by
  refine FnR_len (pre := []) (fnCode_callB code27) fun hlen => ?_
  simp only [List.length_map, maxLen] at hlen
  refine fn_walk code27 (by simp) ?_
  (repeat' (first | refine AW_seq ?_ | refine AW_block ?_ | ((first | refine AW_reg ?_ | refine AW_cond ?_ | refine AW_skip ?_ | refine AW_exit ?_ | refine AW_ret ?_ | refine AW_regD (by kernel_rfl) ?_); try simp (disch := omega) only [go_sem, Nat.reduceLT, Nat.reduceAdd, Nat.reduceSub, Nat.reduceMul, Nat.reduceBEq, Nat.reduceEqDiff, Nat.reduceLeDiff, reduceCtorEq, ↓reduceIte, Nat.beq, Int.reduceToNat, Int.reduceLT, Int.reduceLE, Int.reduceAdd, Int.reduceSub, Int.reduceMul, Int.reduceEq, Int.reduceNeg, Int.reduceNe, Int.toNat_natCast, IntKind.signed, IntKind.bits, Int.reducePow, Nat.reducePow]) | refine And.intro (fun hc => (?_ : AW _ _ _ _)) (fun hc => (?_ : AW _ _ _ _)) | simp (disch := omega) only [go_sem, Nat.reduceLT, Nat.reduceAdd, Nat.reduceSub, Nat.reduceMul, Nat.reduceBEq, Nat.reduceEqDiff, Nat.reduceLeDiff, reduceCtorEq, ↓reduceIte, Nat.beq, Int.reduceToNat, Int.reduceLT, Int.reduceLE, Int.reduceAdd, Int.reduceSub, Int.reduceMul, Int.reduceEq, Int.reduceNeg, Int.reduceNe, Int.toNat_natCast, IntKind.signed, IntKind.bits, Int.reducePow, Nat.reducePow] | (refine And.intro ?_ ?_; focus (first | (intros; omega) | (intros; simp_all; done))) | fail))
  · simp; intro h; subst h; exact hc rfl
  · have hl : a.length = b.length := by omega
    refine AW_loop (ι := {i : Nat // i ≤ a.length ∧ ∀ j, j < i → nth a j = nth b j}) (fun i => ⟨26, [(0, .c (.sl 2 (a.map two))), (1, .c (.sl 2 (b.map two))), (5, .I i.1)], []⟩) (fun i => a.length - i.1) ⟨0, by omega, by omega⟩ ?_ ?_
    · simp (disch := omega) only [go_sem, Nat.reduceLT, Nat.reduceAdd, Nat.reduceSub, Nat.reduceMul, Nat.reduceBEq, Nat.reduceEqDiff, Nat.reduceLeDiff, reduceCtorEq, ↓reduceIte, Nat.beq, Int.reduceToNat, Int.reduceLT, Int.reduceLE, Int.reduceAdd, Int.reduceSub, Int.reduceMul, Int.reduceEq, Int.reduceNeg, Int.reduceNe, Int.toNat_natCast, IntKind.signed, IntKind.bits, Int.reducePow, Nat.reducePow, Int.natCast_zero]
    · rintro ⟨i, hi, hv⟩
      (repeat' (first | refine AW_seq ?_ | refine AW_block ?_ | ((first | refine AW_reg ?_ | refine AW_cond ?_ | refine AW_skip ?_ | refine AW_exit ?_ | refine AW_ret ?_ | refine AW_regD (by kernel_rfl) ?_); try simp (disch := omega) only [go_sem, Nat.reduceLT, Nat.reduceAdd, Nat.reduceSub, Nat.reduceMul, Nat.reduceBEq, Nat.reduceEqDiff, Nat.reduceLeDiff, reduceCtorEq, ↓reduceIte, Nat.beq, Int.reduceToNat, Int.reduceLT, Int.reduceLE, Int.reduceAdd, Int.reduceSub, Int.reduceMul, Int.reduceEq, Int.reduceNeg, Int.reduceNe, Int.toNat_natCast, IntKind.signed, IntKind.bits, Int.reducePow, Nat.reducePow, getD_map two, two]) | refine And.intro (fun hc => (?_ : AW _ _ _ _)) (fun hc => (?_ : AW _ _ _ _)) | simp (disch := omega) only [go_sem, Nat.reduceLT, Nat.reduceAdd, Nat.reduceSub, Nat.reduceMul, Nat.reduceBEq, Nat.reduceEqDiff, Nat.reduceLeDiff, reduceCtorEq, ↓reduceIte, Nat.beq, Int.reduceToNat, Int.reduceLT, Int.reduceLE, Int.reduceAdd, Int.reduceSub, Int.reduceMul, Int.reduceEq, Int.reduceNeg, Int.reduceNe, Int.toNat_natCast, IntKind.signed, IntKind.bits, Int.reducePow, Nat.reducePow, getD_map two, two] | (refine And.intro ?_ ?_; focus (first | (intros; omega) | (intros; simp_all; done))) | fail))
      · symm; simp only [decide_eq_false_iff_not]; intro h; subst h; simp at hc
      · refine ⟨⟨i + 1, by omega, fun j hj => ?_⟩, by simp only []; omega, by simp⟩
        rcases Nat.lt_succ_iff_lt_or_eq.1 hj with h | rfl
        · exact hv j h
        · exact Prod.ext hc.1 hc.2
      · symm; simp only [decide_eq_true_eq]; exact eq_of_nth hl fun j hj => hv j (by omega)
theorem f28 (a b : List (Int)) : FnR Try.prog 28 [.c (.sl 1 (a.map one)), .c (.sl 1 (b.map one))] [.c (.B (decide (a = b)))] := by
  refine FnR_len (pre := []) (fnCode_callB code28) fun hlen => ?_
  simp only [List.length_map, maxLen] at hlen
  refine fn_walk code28 (by simp) ?_
  (repeat' (first | refine AW_seq ?_ | refine AW_block ?_ | ((first | refine AW_reg ?_ | refine AW_cond ?_ | refine AW_skip ?_ | refine AW_exit ?_ | refine AW_ret ?_ | refine AW_regD (by kernel_rfl) ?_); try simp (disch := omega) only [go_sem, Nat.reduceLT, Nat.reduceAdd, Nat.reduceSub, Nat.reduceMul, Nat.reduceBEq, Nat.reduceEqDiff, Nat.reduceLeDiff, reduceCtorEq, ↓reduceIte, Nat.beq, Int.reduceToNat, Int.reduceLT, Int.reduceLE, Int.reduceAdd, Int.reduceSub, Int.reduceMul, Int.reduceEq, Int.reduceNeg, Int.reduceNe, Int.toNat_natCast, IntKind.signed, IntKind.bits, Int.reducePow, Nat.reducePow]) | refine And.intro (fun hc => (?_ : AW _ _ _ _)) (fun hc => (?_ : AW _ _ _ _)) | simp (disch := omega) only [go_sem, Nat.reduceLT, Nat.reduceAdd, Nat.reduceSub, Nat.reduceMul, Nat.reduceBEq, Nat.reduceEqDiff, Nat.reduceLeDiff, reduceCtorEq, ↓reduceIte, Nat.beq, Int.reduceToNat, Int.reduceLT, Int.reduceLE, Int.reduceAdd, Int.reduceSub, Int.reduceMul, Int.reduceEq, Int.reduceNeg, Int.reduceNe, Int.toNat_natCast, IntKind.signed, IntKind.bits, Int.reducePow, Nat.reducePow] | (refine And.intro ?_ ?_; focus (first | (intros; omega) | (intros; simp_all; done))) | fail))
  · simp; intro h; subst h; exact hc rfl
  · have hl : a.length = b.length := by omega
    refine AW_loop (ι := {i : Nat // i ≤ a.length ∧ ∀ j, j < i → nth a j = nth b j}) (fun i => ⟨26, [(0, .c (.sl 1 (a.map one))), (1, .c (.sl 1 (b.map one))), (5, .I i.1)], []⟩) (fun i => a.length - i.1) ⟨0, by omega, by omega⟩ ?_ ?_
    · simp (disch := omega) only [go_sem, Nat.reduceLT, Nat.reduceAdd, Nat.reduceSub, Nat.reduceMul, Nat.reduceBEq, Nat.reduceEqDiff, Nat.reduceLeDiff, reduceCtorEq, ↓reduceIte, Nat.beq, Int.reduceToNat, Int.reduceLT, Int.reduceLE, Int.reduceAdd, Int.reduceSub, Int.reduceMul, Int.reduceEq, Int.reduceNeg, Int.reduceNe, Int.toNat_natCast, IntKind.signed, IntKind.bits, Int.reducePow, Nat.reducePow, Int.natCast_zero]
    · rintro ⟨i, hi, hv⟩
      (repeat' (first | refine AW_seq ?_ | refine AW_block ?_ | ((first | refine AW_reg ?_ | refine AW_cond ?_ | refine AW_skip ?_ | refine AW_exit ?_ | refine AW_ret ?_ | refine AW_regD (by kernel_rfl) ?_); try simp (disch := omega) only [go_sem, Nat.reduceLT, Nat.reduceAdd, Nat.reduceSub, Nat.reduceMul, Nat.reduceBEq, Nat.reduceEqDiff, Nat.reduceLeDiff, reduceCtorEq, ↓reduceIte, Nat.beq, Int.reduceToNat, Int.reduceLT, Int.reduceLE, Int.reduceAdd, Int.reduceSub, Int.reduceMul, Int.reduceEq, Int.reduceNeg, Int.reduceNe, Int.toNat_natCast, IntKind.signed, IntKind.bits, Int.reducePow, Nat.reducePow, getD_map one, one]) | refine And.intro (fun hc => (?_ : AW _ _ _ _)) (fun hc => (?_ : AW _ _ _ _)) | simp (disch := omega) only [go_sem, Nat.reduceLT, Nat.reduceAdd, Nat.reduceSub, Nat.reduceMul, Nat.reduceBEq, Nat.reduceEqDiff, Nat.reduceLeDiff, reduceCtorEq, ↓reduceIte, Nat.beq, Int.reduceToNat, Int.reduceLT, Int.reduceLE, Int.reduceAdd, Int.reduceSub, Int.reduceMul, Int.reduceEq, Int.reduceNeg, Int.reduceNe, Int.toNat_natCast, IntKind.signed, IntKind.bits, Int.reducePow, Nat.reducePow, getD_map one, one] | (refine And.intro ?_ ?_; focus (first | (intros; omega) | (intros; simp_all; done))) | fail))
      · symm; simp only [decide_eq_false_iff_not]; intro h; subst h; simp at hc
      · refine ⟨⟨i + 1, by omega, fun j hj => ?_⟩, by simp only []; omega, by simp⟩
        rcases Nat.lt_succ_iff_lt_or_eq.1 hj with h | rfl
        · exact hv j h
        · exact hc
      · symm; simp only [decide_eq_true_eq]; exact eq_of_nth hl fun j hj => hv j (by omega)
theorem f20 (a b : List (Coin)) : FnR Try.prog 20 [.c (.sl 7 (a.map Coin.cd)), .c (.sl 7 (b.map Coin.cd))] [.c (.B (decide (a = b)))] := by
  refine FnR_len (pre := []) (fnCode_callB code20) fun hlen => ?_
  simp only [List.length_map, maxLen] at hlen
  refine fn_walk code20 (by simp) ?_
  (repeat' (first | refine AW_seq ?_ | refine AW_block ?_ | ((first | refine AW_reg ?_ | refine AW_cond ?_ | refine AW_skip ?_ | refine AW_exit ?_ | refine AW_ret ?_ | refine AW_regD (by kernel_rfl) ?_); try simp (disch := omega) only [go_sem, Nat.reduceLT, Nat.reduceAdd, Nat.reduceSub, Nat.reduceMul, Nat.reduceBEq, Nat.reduceEqDiff, Nat.reduceLeDiff, reduceCtorEq, ↓reduceIte, Nat.beq, Int.reduceToNat, Int.reduceLT, Int.reduceLE, Int.reduceAdd, Int.reduceSub, Int.reduceMul, Int.reduceEq, Int.reduceNeg, Int.reduceNe, Int.toNat_natCast, IntKind.signed, IntKind.bits, Int.reducePow, Nat.reducePow]) | refine And.intro (fun hc => (?_ : AW _ _ _ _)) (fun hc => (?_ : AW _ _ _ _)) | simp (disch := omega) only [go_sem, Nat.reduceLT, Nat.reduceAdd, Nat.reduceSub, Nat.reduceMul, Nat.reduceBEq, Nat.reduceEqDiff, Nat.reduceLeDiff, reduceCtorEq, ↓reduceIte, Nat.beq, Int.reduceToNat, Int.reduceLT, Int.reduceLE, Int.reduceAdd, Int.reduceSub, Int.reduceMul, Int.reduceEq, Int.reduceNeg, Int.reduceNe, Int.toNat_natCast, IntKind.signed, IntKind.bits, Int.reducePow, Nat.reducePow] | (refine And.intro ?_ ?_; focus (first | (intros; omega) | (intros; simp_all; done))) | fail))
  · simp; intro h; subst h; exact hc rfl
  · have hl : a.length = b.length := by omega
    refine AW_loop (ι := {i : Nat // i ≤ a.length ∧ ∀ j, j < i → nth a j = nth b j}) (fun i => ⟨26, [(0, .c (.sl 7 (a.map Coin.cd))), (1, .c (.sl 7 (b.map Coin.cd))), (5, .I i.1)], []⟩) (fun i => a.length - i.1) ⟨0, by omega, by omega⟩ ?_ ?_
    · simp (disch := omega) only [go_sem, Nat.reduceLT, Nat.reduceAdd, Nat.reduceSub, Nat.reduceMul, Nat.reduceBEq, Nat.reduceEqDiff, Nat.reduceLeDiff, reduceCtorEq, ↓reduceIte, Nat.beq, Int.reduceToNat, Int.reduceLT, Int.reduceLE, Int.reduceAdd, Int.reduceSub, Int.reduceMul, Int.reduceEq, Int.reduceNeg, Int.reduceNe, Int.toNat_natCast, IntKind.signed, IntKind.bits, Int.reducePow, Nat.reducePow, Int.natCast_zero]
    · rintro ⟨i, hi, hv⟩
      (repeat' (first | refine AW_seq ?_ | refine AW_block ?_ | ((first | refine AW_reg ?_ | refine AW_cond ?_ | refine AW_skip ?_ | refine AW_exit ?_ | refine AW_ret ?_ | refine AW_regD (by kernel_rfl) ?_); try simp (disch := omega) only [go_sem, Nat.reduceLT, Nat.reduceAdd, Nat.reduceSub, Nat.reduceMul, Nat.reduceBEq, Nat.reduceEqDiff, Nat.reduceLeDiff, reduceCtorEq, ↓reduceIte, Nat.beq, Int.reduceToNat, Int.reduceLT, Int.reduceLE, Int.reduceAdd, Int.reduceSub, Int.reduceMul, Int.reduceEq, Int.reduceNeg, Int.reduceNe, Int.toNat_natCast, IntKind.signed, IntKind.bits, Int.reducePow, Nat.reducePow, getD_map Coin.cd, Coin.cd]) | refine And.intro (fun hc => (?_ : AW _ _ _ _)) (fun hc => (?_ : AW _ _ _ _)) | simp (disch := omega) only [go_sem, Nat.reduceLT, Nat.reduceAdd, Nat.reduceSub, Nat.reduceMul, Nat.reduceBEq, Nat.reduceEqDiff, Nat.reduceLeDiff, reduceCtorEq, ↓reduceIte, Nat.beq, Int.reduceToNat, Int.reduceLT, Int.reduceLE, Int.reduceAdd, Int.reduceSub, Int.reduceMul, Int.reduceEq, Int.reduceNeg, Int.reduceNe, Int.toNat_natCast, IntKind.signed, IntKind.bits, Int.reducePow, Nat.reducePow, getD_map Coin.cd, Coin.cd] | (refine And.intro ?_ ?_; focus (first | (intros; omega) | (intros; simp_all; done))) | fail))
      · symm; simp only [decide_eq_false_iff_not]; intro h; subst h; simp at hc
      · refine ⟨⟨i + 1, by omega, fun j hj => ?_⟩, by simp only []; omega, by simp⟩
        rcases Nat.lt_succ_iff_lt_or_eq.1 hj with h | rfl
        · exact hv j h
        · exact coin_ext hc
      · symm; simp only [decide_eq_true_eq]; exact eq_of_nth hl fun j hj => hv j (by omega)

end Go.Proofs.Ytdbkhiobchkjjaa

open Go Go.AL Go.RowKit
namespace Go.Proofs.Ytdbkhiobchkjjaa

theorem f14t : FnR Try.prog 14 [.c (Coins three), .I 0] [.own 35 2 [[.I 0, .I 1], [.I 0, .I 2]], .c (.I 0)] := by
  have := f14 three 0
  have e : befL three 0 = [(0, 1), (0, 2)] := by decide
  have e2 : befE three 0 = 0 := by decide
  rw [e, e2] at this
  exact this
theorem f21t : FnR Try.prog 21 [.c (Coins three)] [.own 45 2 [[.I 0, .I 1]], .c (.I 0)] := by
  have := f21 three
  have e : chk three = 0 := by decide
  have e2 : allA three clash true three.length = [(0, 1)] := by decide
  rw [e, e2] at this
  exact this
theorem f19t : FnR Try.prog 19 [.c (.sl 2 [[.I 0, .I 1], [.I 0, .I 2]]), .c (.sl 2 [[.I 0, .I 1], [.I 0, .I 2]])] [.c (.B true)] := f19 [(0, 1), (0, 2)] [(0, 1), (0, 2)]
theorem f27t : FnR Try.prog 27 [.c (.sl 2 [[.I 0, .I 1]]), .c (.sl 2 [[.I 0, .I 1]])] [.c (.B true)] := f27 [(0, 1)] [(0, 1)]
theorem f11t : FnR Try.prog 11 [(⟨1, 1, 1, 1, 2, 0, 1⟩ : Coin).av, (⟨3, 1, 5, 2, 1, 0, 1⟩ : Coin).av] [.c (.I 1)] := f11 ⟨1, 1, 1, 1, 2, 0, 1⟩ ⟨3, 1, 5, 2, 1, 0, 1⟩
set_option maxRecDepth 100000 in
set_option maxHeartbeats 2000000 in
theorem f10 : FnR Try.prog 10 [] [.c (.B true)] := by
  refine fn_walk code10 (by simp) ?_
  (repeat' (first | refine AW_seq ?_ | refine AW_block ?_ | ((first | refine AW_reg ?_ | refine AW_cond ?_ | refine AW_skip ?_ | refine AW_exit ?_ | refine AW_ret ?_ | refine AW_regD (by kernel_rfl) ?_ | refine CallAt.mk _ (f31 ..) (by first | (intro h; cases h; done) | (intro _; repeat' (first | exact List.forall_mem_nil _ | trivial | refine List.forall_mem_cons.2 ⟨?_, ?_⟩)) | (intro _; simp [RV.flatP, CD.flatP, three, Coin.cd, List.getD_cons_zero, List.getD_cons_succ]; done)) ?_ | refine CallAtG.mk _ (fun _ => f31 ..) ?_ | refine CallDS.mk _ (by simp [RV.data]) (fun _ => f31 ..) (by first | (intro h; cases h; done) | (intro _; repeat' (first | exact List.forall_mem_nil _ | trivial | refine List.forall_mem_cons.2 ⟨?_, ?_⟩)) | (intro _; simp [RV.flatP, CD.flatP, three, Coin.cd, List.getD_cons_zero, List.getD_cons_succ]; done)) ?_ | refine CallAt.mk _ (f14t ..) (by first | (intro h; cases h; done) | (intro _; repeat' (first | exact List.forall_mem_nil _ | trivial | refine List.forall_mem_cons.2 ⟨?_, ?_⟩)) | (intro _; simp [RV.flatP, CD.flatP, three, Coin.cd, List.getD_cons_zero, List.getD_cons_succ]; done)) ?_ | refine CallAtG.mk _ (fun _ => f14t ..) ?_ | refine CallDS.mk _ (by simp [RV.data]) (fun _ => f14t ..) (by first | (intro h; cases h; done) | (intro _; repeat' (first | exact List.forall_mem_nil _ | trivial | refine List.forall_mem_cons.2 ⟨?_, ?_⟩)) | (intro _; simp [RV.flatP, CD.flatP, three, Coin.cd, List.getD_cons_zero, List.getD_cons_succ]; done)) ?_ | refine CallAt.mk _ (f21t ..) (by first | (intro h; cases h; done) | (intro _; repeat' (first | exact List.forall_mem_nil _ | trivial | refine List.forall_mem_cons.2 ⟨?_, ?_⟩)) | (intro _; simp [RV.flatP, CD.flatP, three, Coin.cd, List.getD_cons_zero, List.getD_cons_succ]; done)) ?_ | refine CallAtG.mk _ (fun _ => f21t ..) ?_ | refine CallDS.mk _ (by simp [RV.data]) (fun _ => f21t ..) (by first | (intro h; cases h; done) | (intro _; repeat' (first | exact List.forall_mem_nil _ | trivial | refine List.forall_mem_cons.2 ⟨?_, ?_⟩)) | (intro _; simp [RV.flatP, CD.flatP, three, Coin.cd, List.getD_cons_zero, List.getD_cons_succ]; done)) ?_ | refine CallAt.mk _ (f19t ..) (by first | (intro h; cases h; done) | (intro _; repeat' (first | exact List.forall_mem_nil _ | trivial | refine List.forall_mem_cons.2 ⟨?_, ?_⟩)) | (intro _; simp [RV.flatP, CD.flatP, three, Coin.cd, List.getD_cons_zero, List.getD_cons_succ]; done)) ?_ | refine CallAtG.mk _ (fun _ => f19t ..) ?_ | refine CallDS.mk _ (by simp [RV.data]) (fun _ => f19t ..) (by first | (intro h; cases h; done) | (intro _; repeat' (first | exact List.forall_mem_nil _ | trivial | refine List.forall_mem_cons.2 ⟨?_, ?_⟩)) | (intro _; simp [RV.flatP, CD.flatP, three, Coin.cd, List.getD_cons_zero, List.getD_cons_succ]; done)) ?_ | refine CallAt.mk _ (f27t ..) (by first | (intro h; cases h; done) | (intro _; repeat' (first | exact List.forall_mem_nil _ | trivial | refine List.forall_mem_cons.2 ⟨?_, ?_⟩)) | (intro _; simp [RV.flatP, CD.flatP, three, Coin.cd, List.getD_cons_zero, List.getD_cons_succ]; done)) ?_ | refine CallAtG.mk _ (fun _ => f27t ..) ?_ | refine CallDS.mk _ (by simp [RV.data]) (fun _ => f27t ..) (by first | (intro h; cases h; done) | (intro _; repeat' (first | exact List.forall_mem_nil _ | trivial | refine List.forall_mem_cons.2 ⟨?_, ?_⟩)) | (intro _; simp [RV.flatP, CD.flatP, three, Coin.cd, List.getD_cons_zero, List.getD_cons_succ]; done)) ?_ | refine CallAt.mk _ (f11t ..) (by first | (intro h; cases h; done) | (intro _; repeat' (first | exact List.forall_mem_nil _ | trivial | refine List.forall_mem_cons.2 ⟨?_, ?_⟩)) | (intro _; simp [RV.flatP, CD.flatP, three, Coin.cd, List.getD_cons_zero, List.getD_cons_succ]; done)) ?_ | refine CallAtG.mk _ (fun _ => f11t ..) ?_ | refine CallDS.mk _ (by simp [RV.data]) (fun _ => f11t ..) (by first | (intro h; cases h; done) | (intro _; repeat' (first | exact List.forall_mem_nil _ | trivial | refine List.forall_mem_cons.2 ⟨?_, ?_⟩)) | (intro _; simp [RV.flatP, CD.flatP, three, Coin.cd, List.getD_cons_zero, List.getD_cons_succ]; done)) ?_); try simp (disch := omega) only [go_sem, Nat.reduceLT, Nat.reduceAdd, Nat.reduceSub, Nat.reduceMul, Nat.reduceBEq, Nat.reduceEqDiff, Nat.reduceLeDiff, reduceCtorEq, ↓reduceIte, Nat.beq, Int.reduceToNat, Int.reduceLT, Int.reduceLE, Int.reduceAdd, Int.reduceSub, Int.reduceMul, Int.reduceEq, Int.reduceNeg, Int.reduceNe, Int.toNat_natCast, IntKind.signed, IntKind.bits, Int.reducePow, Nat.reducePow, three, Coin.cd, List.getD_cons_zero, List.getD_cons_succ]) | refine And.intro (fun hc => (?_ : AW _ _ _ _)) (fun hc => (?_ : AW _ _ _ _)) | simp (disch := omega) only [go_sem, Nat.reduceLT, Nat.reduceAdd, Nat.reduceSub, Nat.reduceMul, Nat.reduceBEq, Nat.reduceEqDiff, Nat.reduceLeDiff, reduceCtorEq, ↓reduceIte, Nat.beq, Int.reduceToNat, Int.reduceLT, Int.reduceLE, Int.reduceAdd, Int.reduceSub, Int.reduceMul, Int.reduceEq, Int.reduceNeg, Int.reduceNe, Int.toNat_natCast, IntKind.signed, IntKind.bits, Int.reducePow, Nat.reducePow, three, Coin.cd, List.getD_cons_zero, List.getD_cons_succ] | (refine And.intro ?_ ?_; focus (first | (intros; omega) | (intros; simp_all; done))) | fail))
theorem advRef_sym (s t : Coin) : (advRef s t = 1 ∨ advRef s t = 2 → advRef t s = 3 - advRef s t) ∧ (¬ advRef s t = 1 ∧ ¬ advRef s t = 2 → advRef s t = advRef t s) := by
  unfold advRef; grind
theorem f3 (s t : Coin) : FnR Try.prog 3 [s.av, t.av] [.c (.B true)] := by
  refine fn_walk code3 (by simp) ?_
  (repeat' (first | refine AW_seq ?_ | refine AW_block ?_ | ((first | refine AW_reg ?_ | refine AW_cond ?_ | refine AW_skip ?_ | refine AW_exit ?_ | refine AW_ret ?_ | refine AW_regD (by kernel_rfl) ?_ | refine CallAt.mk _ (f10 ..) (by first | (intro h; cases h; done) | (intro _; repeat' (first | exact List.forall_mem_nil _ | trivial | refine List.forall_mem_cons.2 ⟨?_, ?_⟩)) | (intro _; simp [RV.flatP, CD.flatP]; done)) ?_ | refine CallAtG.mk _ (fun _ => f10 ..) ?_ | refine CallDS.mk _ (by simp [RV.data]) (fun _ => f10 ..) (by first | (intro h; cases h; done) | (intro _; repeat' (first | exact List.forall_mem_nil _ | trivial | refine List.forall_mem_cons.2 ⟨?_, ?_⟩)) | (intro _; simp [RV.flatP, CD.flatP]; done)) ?_ | refine CallAt.mk _ (f11 ..) (by first | (intro h; cases h; done) | (intro _; repeat' (first | exact List.forall_mem_nil _ | trivial | refine List.forall_mem_cons.2 ⟨?_, ?_⟩)) | (intro _; simp [RV.flatP, CD.flatP]; done)) ?_ | refine CallAtG.mk _ (fun _ => f11 ..) ?_ | refine CallDS.mk _ (by simp [RV.data]) (fun _ => f11 ..) (by first | (intro h; cases h; done) | (intro _; repeat' (first | exact List.forall_mem_nil _ | trivial | refine List.forall_mem_cons.2 ⟨?_, ?_⟩)) | (intro _; simp [RV.flatP, CD.flatP]; done)) ?_ | refine CallAt.mk _ (f12 ..) (by first | (intro h; cases h; done) | (intro _; repeat' (first | exact List.forall_mem_nil _ | trivial | refine List.forall_mem_cons.2 ⟨?_, ?_⟩)) | (intro _; simp [RV.flatP, CD.flatP]; done)) ?_ | refine CallAtG.mk _ (fun _ => f12 ..) ?_ | refine CallDS.mk _ (by simp [RV.data]) (fun _ => f12 ..) (by first | (intro h; cases h; done) | (intro _; repeat' (first | exact List.forall_mem_nil _ | trivial | refine List.forall_mem_cons.2 ⟨?_, ?_⟩)) | (intro _; simp [RV.flatP, CD.flatP]; done)) ?_); try simp (disch := omega) only [go_sem, Nat.reduceLT, Nat.reduceAdd, Nat.reduceSub, Nat.reduceMul, Nat.reduceBEq, Nat.reduceEqDiff, Nat.reduceLeDiff, reduceCtorEq, ↓reduceIte, Nat.beq, Int.reduceToNat, Int.reduceLT, Int.reduceLE, Int.reduceAdd, Int.reduceSub, Int.reduceMul, Int.reduceEq, Int.reduceNeg, Int.reduceNe, Int.toNat_natCast, IntKind.signed, IntKind.bits, Int.reducePow, Nat.reducePow]) | refine And.intro (fun hc => (?_ : AW _ _ _ _)) (fun hc => (?_ : AW _ _ _ _)) | simp (disch := omega) only [go_sem, Nat.reduceLT, Nat.reduceAdd, Nat.reduceSub, Nat.reduceMul, Nat.reduceBEq, Nat.reduceEqDiff, Nat.reduceLeDiff, reduceCtorEq, ↓reduceIte, Nat.beq, Int.reduceToNat, Int.reduceLT, Int.reduceLE, Int.reduceAdd, Int.reduceSub, Int.reduceMul, Int.reduceEq, Int.reduceNeg, Int.reduceNe, Int.toNat_natCast, IntKind.signed, IntKind.bits, Int.reducePow, Nat.reducePow] | (refine And.intro ?_ ?_; focus (first | (intros; omega) | (intros; simp_all; done))) | fail))
  · exact (advRef_sym s t).1 hc
  · exact (advRef_sym s t).2 hc
end Go.Proofs.Ytdbkhiobchkjjaa

