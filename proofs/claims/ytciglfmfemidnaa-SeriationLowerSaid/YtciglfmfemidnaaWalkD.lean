/-
  Lemmas for the proof: no statement of its own.
-/
import Derived.Test.YtciglfmfemidnaaWalkC
set_option linter.unusedVariables false
set_option linter.unusedSimpArgs false
-- P p_30s.txt
open Go Go.AL Go.RowKit
namespace Go.Proofs.Ytciglfmfemidnaa
set_option maxRecDepth 20000

def mixL (t : List (List Int)) (b : List Int) (c : Int) (i : Nat) : List Int := (List.range t.length).map fun j => nth (runsO t (if j < i then b ++ [c] else b)) j
theorem mixL_len (t : List (List Int)) (b : List Int) (c : Int) (i : Nat) : (mixL t b c i).length = t.length := by simp [mixL]
theorem mixL_nth {t : List (List Int)} {b : List Int} {c : Int} {i j : Nat} (h : j < t.length) : nth (mixL t b c i) j = nth (runsO t (if j < i then b ++ [c] else b)) j := by
  rw [nth_eq _ j (by rw [mixL_len]; exact h)]; simp [mixL]
theorem mixL_zero (t : List (List Int)) (b : List Int) (c : Int) : mixL t b c 0 = runsO t b := nth_ext (by rw [mixL_len, runsO_len]) fun j hj => by
  rw [mixL_nth (by rw [mixL_len] at hj; exact hj), if_neg (by omega)]
theorem mixL_full (t : List (List Int)) (b : List Int) (c : Int) : mixL t b c t.length = runsO t (b ++ [c]) := nth_ext (by rw [mixL_len, runsO_len]) fun j hj => by
  rw [mixL_len] at hj
  rw [mixL_nth hj, if_pos hj]
theorem set_nth (l : List Int) (i j : Nat) (v : Int) (hi : i < l.length) : nth (l.set i v) j = if j = i then v else nth l j := by
  by_cases hj : j < l.length
  · rw [nth_eq _ j (by simpa using hj), List.getElem_set, nth_eq l j hj]
    by_cases e : i = j
    · subst e; simp
    · rw [if_neg e, if_neg (Ne.symm e)]
  · unfold nth
    rw [List.getD_eq_getElem?_getD, List.getElem?_eq_none (by simp; omega), List.getD_eq_getElem?_getD, List.getElem?_eq_none (by omega), if_neg (by omega)]
theorem mixL_step (t : List (List Int)) (b : List Int) (c : Int) (i : Nat) (h : i < t.length) : mixL t b c (i + 1) = (mixL t b c i).set i (nth (runsO t (b ++ [c])) i) := nth_ext (by simp [mixL_len]) fun j hj => by
  rw [mixL_len] at hj
  rw [set_nth _ _ _ _ (by rw [mixL_len]; exact h), mixL_nth hj, mixL_nth hj]
  by_cases e : j = i
  · subst e; rw [if_pos (by omega), if_pos rfl]
  · rw [if_neg e]
    by_cases h2 : j < i
    · rw [if_pos (by omega), if_pos h2]
    · rw [if_neg (by omega), if_neg h2]
theorem mixL_same (t : List (List Int)) (b : List Int) (c : Int) (i : Nat) (h : i < t.length) (he : nth (runsO t (b ++ [c])) i = nth (runsO t b) i) : mixL t b c (i + 1) = mixL t b c i := by
  rw [mixL_step t b c i h]
  refine nth_ext (by simp) fun j hj => ?_
  rw [set_nth _ _ _ _ (by rw [mixL_len]; exact h)]
  split
  · rename_i e
    subst e
    rw [mixL_nth h, if_neg (by omega), he]
  · rfl
theorem gapN_set (l : List Int) (i : Nat) (v : Int) (hi : i < l.length) : ∀ m, gapN (l.set i v) m = if i < m then gapN l m - max (nth l i - 1) 0 + max (v - 1) 0 else gapN l m
  | 0 => rfl
  | m + 1 => by
    have ih := gapN_set l i v hi m
    simp only [gapN]
    rw [ih, set_nth l i m v hi]
    by_cases e : m = i
    · subst e
      rw [if_neg (by omega), if_pos rfl, if_pos (by omega)]
      omega
    · rw [if_neg e]
      by_cases h2 : i < m
      · rw [if_pos h2, if_pos (by omega)]; omega
      · rw [if_neg h2, if_neg (by omega)]
theorem runsO_snoc {t : List (List Int)} {b : List Int} {c : Int} {i : Nat} (h : i < t.length) : nth (runsO t (b ++ [c])) i = nth (runsO t b) i + if c ∈ nth t i ∧ (b.length = 0 ∨ nth b (b.length - 1) ∉ nth t i) then 1 else 0 := by
  rw [runsO_nth h, runsO_nth h, runs_snoc]
  split <;> simp
theorem gapO_bound {t : List (List Int)} {b : List Int} (hb : b.length ≤ 7) (ht : t.length ≤ 1000) : gapO t b ≤ 7000 := by
  have key : ∀ k, k ≤ t.length → gapN (runsO t b) k ≤ 7 * k := by
    intro k
    induction k with
    | zero => intro _; simp [gapN]
    | succ k ih =>
      intro hk
      have h1 := ih (by omega)
      have h2 := runsN_le (nth t k) b b.length
      simp only [gapN]
      rw [runsO_nth (by omega)]
      omega
  have := key t.length (Nat.le_refl _)
  unfold gapO
  omega
theorem runs_rng {t : List (List Int)} {b : List Int} {i : Nat} (h : i < t.length) (hb : b.length ≤ 7) : 0 ≤ nth (runsO t b) i ∧ nth (runsO t b) i ≤ 7 := by
  rw [runsO_nth h]
  have := runsN_le (nth t i) b b.length
  omega
def bestD (st : BS) : CD := if st.2 < 0 then .nil else Row st.1
def stepC (n : Nat) (t : List (List Int)) (k : Nat) (b : List Int) (st : BS) (c : Nat) : BS := if (c : Int) ∈ b then st else pl n t k (b ++ [(c : Int)]) st
def foldC (n : Nat) (t : List (List Int)) (k : Nat) (b : List Int) (st : BS) (c : Nat) : BS := (List.range c).foldl (stepC n t k b) st
theorem foldC_succ (n : Nat) (t : List (List Int)) (k : Nat) (b : List Int) (st : BS) (c : Nat) : foldC n t k b st (c + 1) = stepC n t k b (foldC n t k b st c) c := by
  unfold foldC
  rw [List.range_succ, List.foldl_append]; rfl
theorem foldC_zero (n : Nat) (t : List (List Int)) (k : Nat) (b : List Int) (st : BS) : foldC n t k b st 0 = st := rfl
theorem pl_bound {n : Nat} {t : List (List Int)} (ht : t.length ≤ 1000) : ∀ (k : Nat) (b : List Int) (st : BS), b.length + k ≤ 7 → -1 ≤ st.2 ∧ st.2 ≤ 7000 → -1 ≤ (pl n t k b st).2 ∧ (pl n t k b st).2 ≤ 7000
  | 0, b, st, hb, hs => by
    simp only [pl]
    split
    · exact hs
    · have := gapO_nonneg t b
      have := gapO_bound (t := t) (b := b) (by omega) ht
      simp; omega
  | k + 1, b, st, hb, hs => by
    simp only [pl]
    split
    · exact hs
    · have key : ∀ (l : List Nat) (st : BS), -1 ≤ st.2 ∧ st.2 ≤ 7000 → -1 ≤ (l.foldl (fun st (c : Nat) => if (c : Int) ∈ b then st else pl n t k (b ++ [(c : Int)]) st) st).2 ∧ (l.foldl (fun st (c : Nat) => if (c : Int) ∈ b then st else pl n t k (b ++ [(c : Int)]) st) st).2 ≤ 7000 := by
        intro l
        induction l with
        | nil => intro st h; exact h
        | cons c l ih =>
          intro st h
          rw [List.foldl_cons]
          refine ih _ ?_
          split
          · exact h
          · exact pl_bound ht k _ st (by simp; omega) h
      exact key _ st hs
theorem foldC_bound {n : Nat} {t : List (List Int)} (ht : t.length ≤ 1000) {k : Nat} {b : List Int} {st : BS} (hb : b.length + (k + 1) ≤ 7) (hs : -1 ≤ st.2 ∧ st.2 ≤ 7000) : ∀ c, -1 ≤ (foldC n t k b st c).2 ∧ (foldC n t k b st c).2 ≤ 7000
  | 0 => hs
  | c + 1 => by
    have ih := foldC_bound ht hb hs c (n := n)
    rw [foldC_succ]
    unfold stepC
    split
    · exact ih
    · exact pl_bound ht k _ _ (by simp; omega) ih
abbrev SBox (n : Nat) (t : List (List Int)) (st : BS) : AO := .box 44 [.I n, .c (BTab n t), .own 5000, .own 1002013, .c (bestD st), .I st.2]
theorem flatRow (l : List Int) : RV.flatP (ORow l) := by
  intro x hx d hd
  simp only [List.mem_map] at hx
  obtain ⟨a, _, rfl⟩ := hx
  simp at hd; subst hd
  trivial
theorem iset' (l : List Int) (i : Nat) (v : Int) : (l.map fun x => [CD.I x]).set i [CD.I v] = (l.set i v).map fun x => [CD.I x] := by rw [List.map_set]
theorem inB_put (n : Nat) (b : List Int) (c : Nat) : (inB n b).set c true = inB n (b ++ [(c : Int)]) := by
  refine List.ext_getElem (by simp [inB_len]) fun i h1 h2 => ?_
  rw [List.getElem_set]
  simp only [inB, List.getElem_map, List.getElem_range]
  by_cases e : c = i
  · subst e; simp
  · rw [if_neg e]
    have : ¬ ((i : Int) = (c : Int)) := by omega
    simp [this]
theorem inB_pop {n : Nat} {b : List Int} {c : Nat} (hc : (c : Int) ∉ b) : (inB n (b ++ [(c : Int)])).set c false = inB n b := by
  refine List.ext_getElem (by simp [inB_len]) fun i h1 h2 => ?_
  rw [List.getElem_set]
  simp only [inB, List.getElem_map, List.getElem_range]
  by_cases e : c = i
  · subst e; simp [hc]
  · rw [if_neg e]
    have : ¬ ((i : Int) = (c : Int)) := by omega
    simp [this]
theorem holdR {Q : Exit → St → Prop} {σ : St} (h : Hold (AW Try.prog .ret Q σ)) : AW Try.prog .ret Q σ := h.out
set_option maxHeartbeats 4000000 in
theorem w42 (n : Nat) (t : List (List Int)) (hn : n ≤ 7) (ht : t.length ≤ 1000) : ∀ (k : Nat) (b : List Int) (st : BS), Pre n b → b.length + k = n → -1 ≤ st.2 ∧ st.2 ≤ 7000 →
    FnW Try.prog 17 [.ptr 1002015 0, .c (Row (runsO t b)), .I (gapO t b)] [(1002015, SBox n t st), (1002013, .arr 4 1 ((inB n b).map fun x => [CD.B x])), (5000, .arr 3 1 (b.map fun x => [CD.I x]))]
      [] [(1002015, SBox n t (pl n t k b st)), (1002013, .arr 4 1 ((inB n b).map fun x => [CD.B x])), (5000, .arr 3 1 (b.map fun x => [CD.I x]))] [1002015, 1002013]
  | 0, b, st, hpre, hk, hst => by
    have g96 := f96 b (by omega)
    refine fn_walkW code17 (by simp) (by rfl) ?_
    by_cases hp : 0 ≤ st.2 ∧ st.2 ≤ gapO t b
    · have e : pl n t 0 b st = st := by simp only [pl]; rw [if_pos hp]
      rw [e]
      have hd1 : decide (0 ≤ st.2) = true := decide_eq_true hp.1
      have hd2 : decide (st.2 ≤ gapO t b) = true := decide_eq_true hp.2
      (repeat' (first | refine NextAt.mk (fun hc => ?_) (fun pre n v post hc hkey => ?_) | refine Sni.mk (fun hc => ?_) ?_ | refine Both.mk ?_ ?_ | refine AW_seq ?_ | refine AW_block ?_ | ((first | refine AW_reg ?_ | refine AW_cond ?_ | refine AW_skip ?_ | refine AW_exit ?_ | refine AW_ret ?_ | refine AW_regD (by kernel_rfl) ?_ | refine AW_regX (by kernel_rfl) ?_ | refine CallAtG.t (Eq.refl true) ?_ | refine CallAtG.f (Eq.refl false) ?_); try simp (disch := omega) only [go_sem, seval, reduceCtorEq, ↓reduceIte, beq_dec, Int.toNat_natCast, IntKind.signed, IntKind.bits, hd1, hd2]) | refine And.intro (fun hc => (?_ : AW _ _ _ _)) (fun hc => (?_ : AW _ _ _ _)) | simp (disch := omega) only [go_sem, seval, reduceCtorEq, ↓reduceIte, beq_dec, Int.toNat_natCast, IntKind.signed, IntKind.bits, hd1, hd2] | (refine And.intro ?_ ?_; focus (first | (intros; omega) | (intros; simp_all; done))) | refine And.intro (?_ : CallAt _ _ _ _ _ _ _ _) ?_ | refine And.intro (?_ : CallAt _ _ _ _ _ _ _ _ ∧ _) ?_ | refine And.intro (?_ : AW _ _ _ _) ?_ | fail))
    · have e : pl n t 0 b st = (b, gapO t b) := by simp only [pl]; rw [if_neg hp]
      rw [e]
      have hg := gapO_nonneg t b
      have hb : bestD (b, gapO t b) = Row b := by unfold bestD; rw [if_neg (by simp; omega)]
      have hde : decide ((b.length : Int) = (n : Int)) = true := decide_eq_true (by omega)
      by_cases hp1 : 0 ≤ st.2
      · have hd1 : decide (0 ≤ st.2) = true := decide_eq_true hp1
        have hd2 : decide (st.2 ≤ gapO t b) = false := decide_eq_false (by omega)
        (repeat' (first | (with_reducible refine holdR ?_; try simp (disch := omega) only [go_sem, seval, reduceCtorEq, ↓reduceIte, beq_dec, Int.toNat_natCast, IntKind.signed, IntKind.bits, hd1, hd2, hde]) | refine NextAt.mk (fun hc => ?_) (fun pre n v post hc hkey => ?_) | refine Sni.mk (fun hc => ?_) ?_ | refine Both.mk ?_ ?_ | refine AW_seq ?_ | refine AW_block ?_ | ((first | refine AW_reg ?_ | refine AW_cond ?_ | refine AW_skip ?_ | refine AW_exit ?_ | refine AW_ret ?_ | refine AW_regD (by kernel_rfl) ?_ | refine AW_regX (by kernel_rfl) ?_ | refine CallAtG.t (Eq.refl true) ?_ | refine CallAtG.f (Eq.refl false) ?_ | refine CallAt.mk _ (g96 ..) (by first | (intro h; cases h; done) | (intro _; repeat' (first | exact List.forall_mem_nil _ | trivial | exact flatRow _ | refine List.forall_mem_cons.2 ⟨?_, ?_⟩)) | (intro _; simp [RV.flatP, CD.flatP, hd1, hd2, hde]; done)) ?_ | refine CallAtG.mk _ (fun _ => g96 ..) ?_ | refine CallDS.mk _ (by simp [RV.data]) (fun _ => g96 ..) (by first | (intro h; cases h; done) | (intro _; repeat' (first | exact List.forall_mem_nil _ | trivial | exact flatRow _ | refine List.forall_mem_cons.2 ⟨?_, ?_⟩)) | (intro _; simp [RV.flatP, CD.flatP, hd1, hd2, hde]; done)) ?_); try simp (disch := omega) only [go_sem, seval, reduceCtorEq, ↓reduceIte, beq_dec, Int.toNat_natCast, IntKind.signed, IntKind.bits, hd1, hd2, hde]) | refine And.intro (fun hc => (?_ : AW _ _ _ _)) (fun hc => (?_ : AW _ _ _ _)) | simp (disch := omega) only [go_sem, seval, reduceCtorEq, ↓reduceIte, beq_dec, Int.toNat_natCast, IntKind.signed, IntKind.bits, hd1, hd2, hde] | (refine And.intro ?_ ?_; focus (first | (intros; omega) | (intros; simp_all; done))) | refine And.intro (?_ : CallAt _ _ _ _ _ _ _ _) ?_ | refine And.intro (?_ : CallAt _ _ _ _ _ _ _ _ ∧ _) ?_ | refine And.intro (?_ : AW _ _ _ _) ?_ | fail))
        refine Hold.mk ?_
        refine AW_frz [40] ?_
        simp (disch := omega) only [go_sem, seval, reduceCtorEq, ↓reduceIte, beq_dec, Int.toNat_natCast, IntKind.signed, IntKind.bits]
        (repeat' (first | refine NextAt.mk (fun hc => ?_) (fun pre n v post hc hkey => ?_) | refine Sni.mk (fun hc => ?_) ?_ | refine Both.mk ?_ ?_ | refine AW_seq ?_ | refine AW_block ?_ | ((first | refine AW_reg ?_ | refine AW_cond ?_ | refine AW_skip ?_ | refine AW_exit ?_ | refine AW_ret ?_ | refine AW_regD (by kernel_rfl) ?_ | refine AW_regX (by kernel_rfl) ?_ | refine CallAtG.t (Eq.refl true) ?_ | refine CallAtG.f (Eq.refl false) ?_); try simp (disch := omega) only [go_sem, seval, reduceCtorEq, ↓reduceIte, beq_dec, Int.toNat_natCast, IntKind.signed, IntKind.bits, hb, SBox]) | refine And.intro (fun hc => (?_ : AW _ _ _ _)) (fun hc => (?_ : AW _ _ _ _)) | simp (disch := omega) only [go_sem, seval, reduceCtorEq, ↓reduceIte, beq_dec, Int.toNat_natCast, IntKind.signed, IntKind.bits, hb, SBox] | (refine And.intro ?_ ?_; focus (first | (intros; omega) | (intros; simp_all; done))) | refine And.intro (?_ : CallAt _ _ _ _ _ _ _ _) ?_ | refine And.intro (?_ : CallAt _ _ _ _ _ _ _ _ ∧ _) ?_ | refine And.intro (?_ : AW _ _ _ _) ?_ | fail))
      · have hd1 : decide (0 ≤ st.2) = false := decide_eq_false hp1
        (repeat' (first | (with_reducible refine holdR ?_; try simp (disch := omega) only [go_sem, seval, reduceCtorEq, ↓reduceIte, beq_dec, Int.toNat_natCast, IntKind.signed, IntKind.bits, hd1, hde]) | refine NextAt.mk (fun hc => ?_) (fun pre n v post hc hkey => ?_) | refine Sni.mk (fun hc => ?_) ?_ | refine Both.mk ?_ ?_ | refine AW_seq ?_ | refine AW_block ?_ | ((first | refine AW_reg ?_ | refine AW_cond ?_ | refine AW_skip ?_ | refine AW_exit ?_ | refine AW_ret ?_ | refine AW_regD (by kernel_rfl) ?_ | refine AW_regX (by kernel_rfl) ?_ | refine CallAtG.t (Eq.refl true) ?_ | refine CallAtG.f (Eq.refl false) ?_ | refine CallAt.mk _ (g96 ..) (by first | (intro h; cases h; done) | (intro _; repeat' (first | exact List.forall_mem_nil _ | trivial | exact flatRow _ | refine List.forall_mem_cons.2 ⟨?_, ?_⟩)) | (intro _; simp [RV.flatP, CD.flatP, hd1, hde]; done)) ?_ | refine CallAtG.mk _ (fun _ => g96 ..) ?_ | refine CallDS.mk _ (by simp [RV.data]) (fun _ => g96 ..) (by first | (intro h; cases h; done) | (intro _; repeat' (first | exact List.forall_mem_nil _ | trivial | exact flatRow _ | refine List.forall_mem_cons.2 ⟨?_, ?_⟩)) | (intro _; simp [RV.flatP, CD.flatP, hd1, hde]; done)) ?_); try simp (disch := omega) only [go_sem, seval, reduceCtorEq, ↓reduceIte, beq_dec, Int.toNat_natCast, IntKind.signed, IntKind.bits, hd1, hde]) | refine And.intro (fun hc => (?_ : AW _ _ _ _)) (fun hc => (?_ : AW _ _ _ _)) | simp (disch := omega) only [go_sem, seval, reduceCtorEq, ↓reduceIte, beq_dec, Int.toNat_natCast, IntKind.signed, IntKind.bits, hd1, hde] | (refine And.intro ?_ ?_; focus (first | (intros; omega) | (intros; simp_all; done))) | refine And.intro (?_ : CallAt _ _ _ _ _ _ _ _) ?_ | refine And.intro (?_ : CallAt _ _ _ _ _ _ _ _ ∧ _) ?_ | refine And.intro (?_ : AW _ _ _ _) ?_ | fail))
        refine Hold.mk ?_
        refine AW_frz [40] ?_
        simp (disch := omega) only [go_sem, seval, reduceCtorEq, ↓reduceIte, beq_dec, Int.toNat_natCast, IntKind.signed, IntKind.bits]
        (repeat' (first | refine NextAt.mk (fun hc => ?_) (fun pre n v post hc hkey => ?_) | refine Sni.mk (fun hc => ?_) ?_ | refine Both.mk ?_ ?_ | refine AW_seq ?_ | refine AW_block ?_ | ((first | refine AW_reg ?_ | refine AW_cond ?_ | refine AW_skip ?_ | refine AW_exit ?_ | refine AW_ret ?_ | refine AW_regD (by kernel_rfl) ?_ | refine AW_regX (by kernel_rfl) ?_ | refine CallAtG.t (Eq.refl true) ?_ | refine CallAtG.f (Eq.refl false) ?_); try simp (disch := omega) only [go_sem, seval, reduceCtorEq, ↓reduceIte, beq_dec, Int.toNat_natCast, IntKind.signed, IntKind.bits, hb, SBox]) | refine And.intro (fun hc => (?_ : AW _ _ _ _)) (fun hc => (?_ : AW _ _ _ _)) | simp (disch := omega) only [go_sem, seval, reduceCtorEq, ↓reduceIte, beq_dec, Int.toNat_natCast, IntKind.signed, IntKind.bits, hb, SBox] | (refine And.intro ?_ ?_; focus (first | (intros; omega) | (intros; simp_all; done))) | refine And.intro (?_ : CallAt _ _ _ _ _ _ _ _) ?_ | refine And.intro (?_ : CallAt _ _ _ _ _ _ _ _ ∧ _) ?_ | refine And.intro (?_ : AW _ _ _ _) ?_ | fail))
  | k + 1, b, st, hpre, hk, hst => by
    have ih := w42 n t hn ht k
    refine fn_walkW code17 (by simp) (by rfl) ?_
    by_cases hp : 0 ≤ st.2 ∧ st.2 ≤ gapO t b
    · have e : pl n t (k + 1) b st = st := by simp only [pl]; rw [if_pos hp]
      rw [e]
      have hd1 : decide (0 ≤ st.2) = true := decide_eq_true hp.1
      have hd2 : decide (st.2 ≤ gapO t b) = true := decide_eq_true hp.2
      (repeat' (first | refine NextAt.mk (fun hc => ?_) (fun pre n v post hc hkey => ?_) | refine Sni.mk (fun hc => ?_) ?_ | refine Both.mk ?_ ?_ | refine AW_seq ?_ | refine AW_block ?_ | ((first | refine AW_reg ?_ | refine AW_cond ?_ | refine AW_skip ?_ | refine AW_exit ?_ | refine AW_ret ?_ | refine AW_regD (by kernel_rfl) ?_ | refine AW_regX (by kernel_rfl) ?_ | refine CallAtG.t (Eq.refl true) ?_ | refine CallAtG.f (Eq.refl false) ?_); try simp (disch := omega) only [go_sem, seval, reduceCtorEq, ↓reduceIte, beq_dec, Int.toNat_natCast, IntKind.signed, IntKind.bits, hd1, hd2]) | refine And.intro (fun hc => (?_ : AW _ _ _ _)) (fun hc => (?_ : AW _ _ _ _)) | simp (disch := omega) only [go_sem, seval, reduceCtorEq, ↓reduceIte, beq_dec, Int.toNat_natCast, IntKind.signed, IntKind.bits, hd1, hd2] | (refine And.intro ?_ ?_; focus (first | (intros; omega) | (intros; simp_all; done))) | refine And.intro (?_ : CallAt _ _ _ _ _ _ _ _) ?_ | refine And.intro (?_ : CallAt _ _ _ _ _ _ _ _ ∧ _) ?_ | refine And.intro (?_ : AW _ _ _ _) ?_ | fail))
    · have e : pl n t (k + 1) b st = foldC n t k b st n := by simp only [pl]; rw [if_neg hp]; rfl
      rw [e]
      have hde : decide ((b.length : Int) = (n : Int)) = false := decide_eq_false (by omega)
      have hdp : (decide (0 ≤ st.2) && decide (st.2 ≤ gapO t b)) = false := by rw [← decide_eq_false hp, Bool.decide_and]
      · (repeat' (first | refine NextAt.mk (fun hc => ?_) (fun pre n v post hc hkey => ?_) | refine Sni.mk (fun hc => ?_) ?_ | refine Both.mk ?_ ?_ | refine AW_seq ?_ | refine AW_block ?_ | ((first | refine AW_reg ?_ | refine AW_cond ?_ | refine AW_skip ?_ | refine AW_exit ?_ | refine AW_ret ?_ | refine AW_regD (by kernel_rfl) ?_ | refine AW_regX (by kernel_rfl) ?_ | refine CallAtG.t (Eq.refl true) ?_ | refine CallAtG.f (Eq.refl false) ?_); try simp (disch := omega) only [go_sem, seval, reduceCtorEq, ↓reduceIte, beq_dec, Int.toNat_natCast, IntKind.signed, IntKind.bits, hdp, hde]) | refine And.intro (fun hc => (?_ : AW _ _ _ _)) (fun hc => (?_ : AW _ _ _ _)) | simp (disch := omega) only [go_sem, seval, reduceCtorEq, ↓reduceIte, beq_dec, Int.toNat_natCast, IntKind.signed, IntKind.bits, hdp, hde] | (refine And.intro ?_ ?_; focus (first | (intros; omega) | (intros; simp_all; done))) | refine And.intro (?_ : CallAt _ _ _ _ _ _ _ _) ?_ | refine And.intro (?_ : CallAt _ _ _ _ _ _ _ _ ∧ _) ?_ | refine And.intro (?_ : AW _ _ _ _) ?_ | fail))
        refine AW_loopK [0, 1, 2, 49] [6, 7, 8, 9, 10, 50, 51, 52, 53, 54, 55, 56, 57, 58, 59, 60, 61, 62, 63, 64, 65, 66, 67, 68, 69, 70, 71, 72, 73, 74, 75, 76, 77, 78, 79, 80, 81, 82, 83, 84, 85, 86, 87, 88, 89, 90, 91, 92, 93, 94, 95, 96, 97, 98, 99, 100, 101, 102, 103, 104, 105, 106, 107, 108, 109, 110, 111, 112, 113, 114, 115, 116, 117, 118, 119, 120, 121, 122, 123, 124, 125, 126, 127, 128, 129, 130, 131, 132, 133, 134, 135, 136, 137, 138, 139, 140, 141, 142, 143, 144, 145, 146, 147, 148, 149, 150, 151, 152, 153, 154, 155, 156, 157] (fun c : Nat => c ≤ n) (fun c => [(50, .I c)]) (fun c => [(1002015, SBox n t (foldC n t k b st c)), (1002013, .arr 4 1 ((inB n b).map fun x => [CD.B x])), (5000, .arr 3 1 (b.map fun x => [CD.I x]))]) (fun c => n - c) 0 (by omega) ?_ ?_
        · simp (disch := omega) only [go_sem, seval, reduceCtorEq, ↓reduceIte, beq_dec, Int.toNat_natCast, IntKind.signed, IntKind.bits, Int.natCast_zero, foldC_zero, SBox]
        · rintro c hc
          have hfb := foldC_bound (n := n) (k := k) ht (b := b) (by omega) hst c
          by_cases hcn : c < n
          case neg =>
            have hdc : decide ((n : Int) < (n : Int)) = false := decide_eq_false (by omega)
            rw [show c = n by omega]
            (repeat' (first | refine NextAt.mk (fun hc => ?_) (fun pre n v post hc hkey => ?_) | refine Sni.mk (fun hc => ?_) ?_ | refine Both.mk ?_ ?_ | refine AW_seq ?_ | refine AW_block ?_ | ((first | refine AW_reg ?_ | refine AW_cond ?_ | refine AW_skip ?_ | refine AW_exit ?_ | refine AW_ret ?_ | refine AW_regD (by kernel_rfl) ?_ | refine AW_regX (by kernel_rfl) ?_ | refine CallAtG.t (Eq.refl true) ?_ | refine CallAtG.f (Eq.refl false) ?_); try simp (disch := omega) only [go_sem, seval, reduceCtorEq, ↓reduceIte, beq_dec, Int.toNat_natCast, IntKind.signed, IntKind.bits, hdc, SBox]) | refine And.intro (fun hc => (?_ : AW _ _ _ _)) (fun hc => (?_ : AW _ _ _ _)) | simp (disch := omega) only [go_sem, seval, reduceCtorEq, ↓reduceIte, beq_dec, Int.toNat_natCast, IntKind.signed, IntKind.bits, hdc, SBox] | (refine And.intro ?_ ?_; focus (first | (intros; omega) | (intros; simp_all; done))) | refine And.intro (?_ : CallAt _ _ _ _ _ _ _ _) ?_ | refine And.intro (?_ : CallAt _ _ _ _ _ _ _ _ ∧ _) ?_ | refine And.intro (?_ : AW _ _ _ _) ?_ | fail))
          case pos =>
            have hdc : decide ((c : Int) < (n : Int)) = true := decide_eq_true (by omega)
            have hil := inB_len n b
            have hin := inB_nth (r := b) hcn
            by_cases hcb : (c : Int) ∈ b
            · have hdb : decide ((c : Int) ∈ b) = true := decide_eq_true hcb
              have e1 : foldC n t k b st (c + 1) = foldC n t k b st c := by rw [foldC_succ]; unfold stepC; rw [if_pos hcb]
              (repeat' (first | refine NextAt.mk (fun hc => ?_) (fun pre n v post hc hkey => ?_) | refine Sni.mk (fun hc => ?_) ?_ | refine Both.mk ?_ ?_ | refine AW_seq ?_ | refine AW_block ?_ | ((first | refine AW_reg ?_ | refine AW_cond ?_ | refine AW_skip ?_ | refine AW_exit ?_ | refine AW_ret ?_ | refine AW_regD (by kernel_rfl) ?_ | refine AW_regX (by kernel_rfl) ?_ | refine CallAtG.t (Eq.refl true) ?_ | refine CallAtG.f (Eq.refl false) ?_); try simp (disch := omega) only [go_sem, seval, reduceCtorEq, ↓reduceIte, beq_dec, Int.toNat_natCast, IntKind.signed, IntKind.bits, hdc, SBox, getD_map (fun x : Bool => [CD.B x]), hil, hin, hdb]) | refine And.intro (fun hc => (?_ : AW _ _ _ _)) (fun hc => (?_ : AW _ _ _ _)) | simp (disch := omega) only [go_sem, seval, reduceCtorEq, ↓reduceIte, beq_dec, Int.toNat_natCast, IntKind.signed, IntKind.bits, hdc, SBox, getD_map (fun x : Bool => [CD.B x]), hil, hin, hdb] | (refine And.intro ?_ ?_; focus (first | (intros; omega) | (intros; simp_all; done))) | refine And.intro (?_ : CallAt _ _ _ _ _ _ _ _) ?_ | refine And.intro (?_ : CallAt _ _ _ _ _ _ _ _ ∧ _) ?_ | refine And.intro (?_ : AW _ _ _ _) ?_ | fail))
              refine .mk (c + 1) (by omega) (by omega) ?_
              simp (disch := omega) only [go_sem, seval, reduceCtorEq, ↓reduceIte, beq_dec, Int.toNat_natCast, IntKind.signed, IntKind.bits, Int.natCast_add, Int.natCast_one, e1, SBox]
            · have hdb : decide ((c : Int) ∈ b) = false := decide_eq_false hcb
              have e1 : foldC n t k b st (c + 1) = pl n t k (b ++ [(c : Int)]) (foldC n t k b st c) := by rw [foldC_succ]; unfold stepC; rw [if_neg hcb]
              have g96 := f96 (runsO t b) (by rw [runsO_len]; omega)
              (repeat' (first | refine NextAt.mk (fun hc => ?_) (fun pre n v post hc hkey => ?_) | refine Sni.mk (fun hc => ?_) ?_ | refine Both.mk ?_ ?_ | refine AW_seq ?_ | refine AW_block ?_ | ((first | refine AW_reg ?_ | refine AW_cond ?_ | refine AW_skip ?_ | refine AW_exit ?_ | refine AW_ret ?_ | refine AW_regD (by kernel_rfl) ?_ | refine AW_regX (by kernel_rfl) ?_ | refine CallAtG.t (Eq.refl true) ?_ | refine CallAtG.f (Eq.refl false) ?_ | refine CallAt.mk _ (g96 ..) (by first | (intro h; cases h; done) | (intro _; repeat' (first | exact List.forall_mem_nil _ | trivial | refine List.forall_mem_cons.2 ⟨?_, ?_⟩)) | (intro _; simp [RV.flatP, CD.flatP, hdc, SBox, getD_map (fun x : Bool => [CD.B x]), hil, hin, hdb]; done)) ?_ | refine CallAtG.mk _ (fun _ => g96 ..) ?_ | refine CallDS.mk _ (by simp [RV.data]) (fun _ => g96 ..) (by first | (intro h; cases h; done) | (intro _; repeat' (first | exact List.forall_mem_nil _ | trivial | refine List.forall_mem_cons.2 ⟨?_, ?_⟩)) | (intro _; simp [RV.flatP, CD.flatP, hdc, SBox, getD_map (fun x : Bool => [CD.B x]), hil, hin, hdb]; done)) ?_); try simp (disch := omega) only [go_sem, seval, reduceCtorEq, ↓reduceIte, beq_dec, Int.toNat_natCast, IntKind.signed, IntKind.bits, hdc, SBox, getD_map (fun x : Bool => [CD.B x]), hil, hin, hdb]) | refine And.intro (fun hc => (?_ : AW _ _ _ _)) (fun hc => (?_ : AW _ _ _ _)) | simp (disch := omega) only [go_sem, seval, reduceCtorEq, ↓reduceIte, beq_dec, Int.toNat_natCast, IntKind.signed, IntKind.bits, hdc, SBox, getD_map (fun x : Bool => [CD.B x]), hil, hin, hdb] | (refine And.intro ?_ ?_; focus (first | (intros; omega) | (intros; simp_all; done))) | refine And.intro (?_ : CallAt _ _ _ _ _ _ _ _) ?_ | refine And.intro (?_ : CallAt _ _ _ _ _ _ _ _ ∧ _) ?_ | refine And.intro (?_ : AW _ _ _ _) ?_ | fail))
              refine AW_loopK [0, 1, 2, 6, 7, 49, 50, 66, 67] [8, 9, 10, 68, 69, 70, 71, 72, 73, 74, 75, 76, 77, 78, 79, 80, 81, 82, 83, 84, 85, 86, 87, 88, 89, 90, 91, 92, 93, 94, 95, 96, 97, 98, 99, 100, 101, 102, 103, 104, 105, 106, 107, 108, 109, 110, 111, 112, 113, 114, 115, 116] (fun i : Nat => i ≤ t.length) (fun i => [(68, .I i), (7, .own 61), (8, .I (gapN (mixL t b c i) t.length))]) (fun i => [(61, .arr 3 1 ((mixL t b c i).map fun x => [CD.I x]))]) (fun i => t.length - i) 0 (by omega) ?_ ?_
              · simp (disch := omega) only [go_sem, seval, reduceCtorEq, ↓reduceIte, beq_dec, Int.toNat_natCast, IntKind.signed, IntKind.bits, Int.natCast_zero, mixL_zero, gapO]
              · rintro i hi
                by_cases hit : i < t.length
                case neg =>
                  have hdi : decide ((t.length : Int) < (t.length : Int)) = false := decide_eq_false (by omega)
                  rw [show i = t.length by omega, mixL_full]
                  have hbt := inB_len n b
                  have hpre' : Pre n (b ++ [(c : Int)]) := hpre.snoc hcn hcb
                  have g := ih (b ++ [(c : Int)]) (foldC n t k b st c) hpre' (by simp; omega) hfb
                  simp only [gapO, SBox, Row, List.map_append, List.map_cons, List.map_nil] at g
                  have hip := inB_put n b c
                  have hio := inB_pop hcb (n := n)
                  have hib2 := inB_len n (b ++ [(c : Int)])
                  have hto : ((b.length : Int) + 1 - 1).toNat = b.length := by omega
                  have htk : List.take b.length (List.map (fun x : Int => [CD.I x]) b ++ [[CD.I (c : Int)]]) = List.map (fun x : Int => [CD.I x]) b := List.take_left' (by simp)
                  (repeat' (first | refine NextAt.mk (fun hc => ?_) (fun pre n v post hc hkey => ?_) | refine Sni.mk (fun hc => ?_) ?_ | refine Both.mk ?_ ?_ | refine AW_seq ?_ | refine AW_block ?_ | ((first | refine AW_reg ?_ | refine AW_cond ?_ | refine AW_skip ?_ | refine AW_exit ?_ | refine AW_ret ?_ | refine AW_regD (by kernel_rfl) ?_ | refine AW_regX (by kernel_rfl) ?_ | refine CallAtG.t (Eq.refl true) ?_ | refine CallAtG.f (Eq.refl false) ?_); try simp (disch := omega) only [go_sem, seval, reduceCtorEq, ↓reduceIte, beq_dec, Int.toNat_natCast, IntKind.signed, IntKind.bits, hdi, SBox, getD_map (fun x : Bool => [CD.B x]), hil, maxLen]) | refine And.intro (fun hc => (?_ : AW _ _ _ _)) (fun hc => (?_ : AW _ _ _ _)) | simp (disch := omega) only [go_sem, seval, reduceCtorEq, ↓reduceIte, beq_dec, Int.toNat_natCast, IntKind.signed, IntKind.bits, hdi, SBox, getD_map (fun x : Bool => [CD.B x]), hil, maxLen] | (refine And.intro ?_ ?_; focus (first | (intros; omega) | (intros; simp_all; done))) | refine And.intro (?_ : CallAt _ _ _ _ _ _ _ _) ?_ | refine And.intro (?_ : CallAt _ _ _ _ _ _ _ _ ∧ _) ?_ | refine And.intro (?_ : AW _ _ _ _) ?_ | fail))
                  refine CallAt.frz [61] ?_
                  simp (disch := omega) only [go_sem, seval, reduceCtorEq, ↓reduceIte, beq_dec, Int.toNat_natCast, IntKind.signed, IntKind.bits, bset, hip]
                  (repeat' (first | refine NextAt.mk (fun hc => ?_) (fun pre n v post hc hkey => ?_) | refine Sni.mk (fun hc => ?_) ?_ | refine Both.mk ?_ ?_ | refine AW_seq ?_ | refine AW_block ?_ | ((first | refine AW_reg ?_ | refine AW_cond ?_ | refine AW_skip ?_ | refine AW_exit ?_ | refine AW_ret ?_ | refine AW_regD (by kernel_rfl) ?_ | refine AW_regX (by kernel_rfl) ?_ | refine CallAt.mkW (g ..) (by rfl) (by simp (disch := omega) only [go_sem, seval, reduceCtorEq, ↓reduceIte, beq_dec, Int.toNat_natCast, IntKind.signed, IntKind.bits, bset, hip, hto, htk, hib2, hio, getD_map (fun x : Bool => [CD.B x]), List.length_append]) (by rfl) (by rfl) (by first | (intro h; cases h; done) | (intro _; simp [RV.flatP, CD.flatP, flatOb, AO.flatP, bset, hip, hto, htk, hib2, hio, getD_map (fun x : Bool => [CD.B x]), List.length_append]; done)) ?_ | refine CallAtG.t (Eq.refl true) ?_ | refine CallAtG.f (Eq.refl false) ?_); try simp (disch := omega) only [go_sem, seval, reduceCtorEq, ↓reduceIte, beq_dec, Int.toNat_natCast, IntKind.signed, IntKind.bits, bset, hip, hto, htk, hib2, hio, getD_map (fun x : Bool => [CD.B x]), List.length_append]) | refine And.intro (fun hc => (?_ : AW _ _ _ _)) (fun hc => (?_ : AW _ _ _ _)) | simp (disch := omega) only [go_sem, seval, reduceCtorEq, ↓reduceIte, beq_dec, Int.toNat_natCast, IntKind.signed, IntKind.bits, bset, hip, hto, htk, hib2, hio, getD_map (fun x : Bool => [CD.B x]), List.length_append] | (refine And.intro ?_ ?_; focus (first | (intros; omega) | (intros; simp_all; done))) | refine And.intro (?_ : CallAt _ _ _ _ _ _ _ _) ?_ | refine And.intro (?_ : CallAt _ _ _ _ _ _ _ _ ∧ _) ?_ | refine And.intro (?_ : AW _ _ _ _) ?_ | fail))
                  have hto2 : ((b.length + 1 : Nat) : Int) - 1 = (b.length : Int) := by omega
                  have hio2 : (List.map (fun x : Bool => [CD.B x]) (inB n (b ++ [(c : Int)]))).set c [CD.sc (Value.bool false)] = List.map (fun x : Bool => [CD.B x]) (inB n b) := by rw [← hio, ← bset]
                  refine And.intro ?_ ?_
                  all_goals
                    (repeat' (first | refine NextAt.mk (fun hc => ?_) (fun pre n v post hc hkey => ?_) | refine Sni.mk (fun hc => ?_) ?_ | refine Both.mk ?_ ?_ | refine AW_seq ?_ | refine AW_block ?_ | ((first | refine AW_reg ?_ | refine AW_cond ?_ | refine AW_skip ?_ | refine AW_exit ?_ | refine AW_ret ?_ | refine AW_regD (by kernel_rfl) ?_ | refine AW_regX (by kernel_rfl) ?_ | refine CallAtG.t (Eq.refl true) ?_ | refine CallAtG.f (Eq.refl false) ?_); try simp (disch := omega) only [go_sem, seval, reduceCtorEq, ↓reduceIte, beq_dec, Int.toNat_natCast, IntKind.signed, IntKind.bits, bset, hip, hto2, htk, hib2, hio, hio2, getD_map (fun x : Bool => [CD.B x]), List.length_append]) | refine And.intro (fun hc => (?_ : AW _ _ _ _)) (fun hc => (?_ : AW _ _ _ _)) | simp (disch := omega) only [go_sem, seval, reduceCtorEq, ↓reduceIte, beq_dec, Int.toNat_natCast, IntKind.signed, IntKind.bits, bset, hip, hto2, htk, hib2, hio, hio2, getD_map (fun x : Bool => [CD.B x]), List.length_append] | (refine And.intro ?_ ?_; focus (first | (intros; omega) | (intros; simp_all; done))) | refine And.intro (?_ : CallAt _ _ _ _ _ _ _ _) ?_ | refine And.intro (?_ : CallAt _ _ _ _ _ _ _ _ ∧ _) ?_ | refine And.intro (?_ : AW _ _ _ _) ?_ | fail))
                    refine .mk (c + 1) (by omega) (by omega) ?_
                    simp (disch := omega) only [go_sem, seval, reduceCtorEq, ↓reduceIte, beq_dec, Int.toNat_natCast, IntKind.signed, IntKind.bits, Int.natCast_add, Int.natCast_one, e1, SBox, bset, hip, hio, hio2]
                case pos =>
                  have hdi : decide ((i : Int) < (t.length : Int)) = true := decide_eq_true (by omega)
                  have hml := mixL_len t b c i
                  have hmn : nth (mixL t b c i) i = nth (runsO t b) i := by rw [mixL_nth hit, if_neg (by omega)]
                  have hrr := runs_rng (b := b) hit (by omega)
                  have hgb := gapN_nonneg (l := mixL t b c i) t.length
                  have hbil := inB_len n (nth t i)
                  have hbin := inB_nth (r := nth t i) hcn
                  have hsn := runsO_snoc (b := b) (c := (c : Int)) hit
                  have hlast : b.length ≠ 0 → 0 ≤ nth b (b.length - 1) ∧ nth b (b.length - 1) < n := fun h => hpre.rg _ (nth_mem b _ (by omega))
                  have hgm := gapN_set (mixL t b c i) i (nth (runsO t (b ++ [(c : Int)])) i) (by omega) t.length
                  rw [if_pos hit, hmn] at hgm
                  have hub : gapN (mixL t b c i) t.length ≤ 7000000 := by
                    have key : ∀ m, m ≤ t.length → gapN (mixL t b c i) m ≤ 7 * m := by
                      intro m
                      induction m with
                      | zero => intro _; simp [gapN]
                      | succ m ihm =>
                        intro hm
                        have h1 := ihm (by omega)
                        have h2 : nth (mixL t b c i) m ≤ 7 := by
                          rw [mixL_nth (by omega)]
                          split
                          · exact (runs_rng (b := b ++ [(c : Int)]) (by omega) (by simp; omega)).2
                          · exact (runs_rng (b := b) (by omega) (by omega)).2
                        simp only [gapN]
                        omega
                    have := key t.length (Nat.le_refl _)
                    omega
                  by_cases hT : (c : Int) ∈ nth t i ∧ (b.length = 0 ∨ nth b (b.length - 1) ∉ nth t i)
                  case neg =>
                    rw [if_neg hT, Int.add_zero] at hsn
                    have e2 := mixL_same t b c i hit hsn
                    rcases Nat.eq_zero_or_pos b.length with h0 | h0
                    · obtain rfl := List.length_eq_zero_iff.1 h0
                      have hdA : decide ((c : Int) ∈ nth t i) = false := decide_eq_false fun h => hT ⟨h, .inl rfl⟩
                      (repeat' (first | refine NextAt.mk (fun hc => ?_) (fun pre n v post hc hkey => ?_) | refine Sni.mk (fun hc => ?_) ?_ | refine Both.mk ?_ ?_ | refine AW_seq ?_ | refine AW_block ?_ | ((first | refine AW_reg ?_ | refine AW_cond ?_ | refine AW_skip ?_ | refine AW_exit ?_ | refine AW_ret ?_ | refine AW_regD (by kernel_rfl) ?_ | refine AW_regX (by kernel_rfl) ?_ | refine CallAtG.t (Eq.refl true) ?_ | refine CallAtG.f (Eq.refl false) ?_); try simp (disch := omega) only [go_sem, seval, reduceCtorEq, ↓reduceIte, beq_dec, Int.toNat_natCast, IntKind.signed, IntKind.bits, hdi, hdA, SBox, getD_map (fun r : List Int => [BRow (inB n r)]), getD_map (fun x : Bool => [CD.B x]), getD_map (fun x : Int => [CD.I x]), toNat_pred, hml, hmn, hbil, hbin, List.getD_nil, List.headD_nil]) | refine And.intro (fun hc => (?_ : AW _ _ _ _)) (fun hc => (?_ : AW _ _ _ _)) | simp (disch := omega) only [go_sem, seval, reduceCtorEq, ↓reduceIte, beq_dec, Int.toNat_natCast, IntKind.signed, IntKind.bits, hdi, hdA, SBox, getD_map (fun r : List Int => [BRow (inB n r)]), getD_map (fun x : Bool => [CD.B x]), getD_map (fun x : Int => [CD.I x]), toNat_pred, hml, hmn, hbil, hbin, List.getD_nil, List.headD_nil] | (refine And.intro ?_ ?_; focus (first | (intros; omega) | (intros; simp_all; done))) | refine And.intro (?_ : CallAt _ _ _ _ _ _ _ _) ?_ | refine And.intro (?_ : CallAt _ _ _ _ _ _ _ _ ∧ _) ?_ | refine And.intro (?_ : AW _ _ _ _) ?_ | fail))
                      refine .mk (i + 1) (by omega) (by omega) ?_
                      simp (disch := omega) only [go_sem, seval, reduceCtorEq, ↓reduceIte, beq_dec, Int.toNat_natCast, IntKind.signed, IntKind.bits, Int.natCast_add, Int.natCast_one, e2]
                    · have hd0 : decide (0 < (b.length : Int)) = true := decide_eq_true (by omega)
                      have hll := hlast (by omega)
                      have hbl : nth (inB n (nth t i)) (nth b (b.length - 1)).toNat = decide (nth b (b.length - 1) ∈ nth t i) := by
                        rw [inB_nth (by omega), show (((nth b (b.length - 1)).toNat : Nat) : Int) = nth b (b.length - 1) by omega]
                      by_cases hA : (c : Int) ∈ nth t i
                      · have hdA : decide ((c : Int) ∈ nth t i) = true := decide_eq_true hA
                        have hdL : decide (nth b (b.length - 1) ∈ nth t i) = true := decide_eq_true (Classical.byContradiction fun h => hT ⟨hA, .inr h⟩)
                        (repeat' (first | refine NextAt.mk (fun hc => ?_) (fun pre n v post hc hkey => ?_) | refine Sni.mk (fun hc => ?_) ?_ | refine Both.mk ?_ ?_ | refine AW_seq ?_ | refine AW_block ?_ | ((first | refine AW_reg ?_ | refine AW_cond ?_ | refine AW_skip ?_ | refine AW_exit ?_ | refine AW_ret ?_ | refine AW_regD (by kernel_rfl) ?_ | refine AW_regX (by kernel_rfl) ?_ | refine CallAtG.t (Eq.refl true) ?_ | refine CallAtG.f (Eq.refl false) ?_); try simp (disch := omega) only [go_sem, seval, reduceCtorEq, ↓reduceIte, beq_dec, Int.toNat_natCast, IntKind.signed, IntKind.bits, hdi, hdA, hd0, hbl, hdL, SBox, getD_map (fun r : List Int => [BRow (inB n r)]), getD_map (fun x : Bool => [CD.B x]), getD_map (fun x : Int => [CD.I x]), toNat_pred, hml, hmn, hbil, hbin, List.getD_nil, List.headD_nil]) | refine And.intro (fun hc => (?_ : AW _ _ _ _)) (fun hc => (?_ : AW _ _ _ _)) | simp (disch := omega) only [go_sem, seval, reduceCtorEq, ↓reduceIte, beq_dec, Int.toNat_natCast, IntKind.signed, IntKind.bits, hdi, hdA, hd0, hbl, hdL, SBox, getD_map (fun r : List Int => [BRow (inB n r)]), getD_map (fun x : Bool => [CD.B x]), getD_map (fun x : Int => [CD.I x]), toNat_pred, hml, hmn, hbil, hbin, List.getD_nil, List.headD_nil] | (refine And.intro ?_ ?_; focus (first | (intros; omega) | (intros; simp_all; done))) | refine And.intro (?_ : CallAt _ _ _ _ _ _ _ _) ?_ | refine And.intro (?_ : CallAt _ _ _ _ _ _ _ _ ∧ _) ?_ | refine And.intro (?_ : AW _ _ _ _) ?_ | fail))
                        refine .mk (i + 1) (by omega) (by omega) ?_
                        simp (disch := omega) only [go_sem, seval, reduceCtorEq, ↓reduceIte, beq_dec, Int.toNat_natCast, IntKind.signed, IntKind.bits, Int.natCast_add, Int.natCast_one, e2]
                      · have hdA : decide ((c : Int) ∈ nth t i) = false := decide_eq_false hA
                        (repeat' (first | refine NextAt.mk (fun hc => ?_) (fun pre n v post hc hkey => ?_) | refine Sni.mk (fun hc => ?_) ?_ | refine Both.mk ?_ ?_ | refine AW_seq ?_ | refine AW_block ?_ | ((first | refine AW_reg ?_ | refine AW_cond ?_ | refine AW_skip ?_ | refine AW_exit ?_ | refine AW_ret ?_ | refine AW_regD (by kernel_rfl) ?_ | refine AW_regX (by kernel_rfl) ?_ | refine CallAtG.t (Eq.refl true) ?_ | refine CallAtG.f (Eq.refl false) ?_); try simp (disch := omega) only [go_sem, seval, reduceCtorEq, ↓reduceIte, beq_dec, Int.toNat_natCast, IntKind.signed, IntKind.bits, hdi, hdA, hd0, hbl, SBox, getD_map (fun r : List Int => [BRow (inB n r)]), getD_map (fun x : Bool => [CD.B x]), getD_map (fun x : Int => [CD.I x]), toNat_pred, hml, hmn, hbil, hbin, List.getD_nil, List.headD_nil]) | refine And.intro (fun hc => (?_ : AW _ _ _ _)) (fun hc => (?_ : AW _ _ _ _)) | simp (disch := omega) only [go_sem, seval, reduceCtorEq, ↓reduceIte, beq_dec, Int.toNat_natCast, IntKind.signed, IntKind.bits, hdi, hdA, hd0, hbl, SBox, getD_map (fun r : List Int => [BRow (inB n r)]), getD_map (fun x : Bool => [CD.B x]), getD_map (fun x : Int => [CD.I x]), toNat_pred, hml, hmn, hbil, hbin, List.getD_nil, List.headD_nil] | (refine And.intro ?_ ?_; focus (first | (intros; omega) | (intros; simp_all; done))) | refine And.intro (?_ : CallAt _ _ _ _ _ _ _ _) ?_ | refine And.intro (?_ : CallAt _ _ _ _ _ _ _ _ ∧ _) ?_ | refine And.intro (?_ : AW _ _ _ _) ?_ | fail))
                        refine .mk (i + 1) (by omega) (by omega) ?_
                        simp (disch := omega) only [go_sem, seval, reduceCtorEq, ↓reduceIte, beq_dec, Int.toNat_natCast, IntKind.signed, IntKind.bits, Int.natCast_add, Int.natCast_one, e2]
                  case pos =>
                    rw [if_pos hT] at hsn
                    have e2 := mixL_step t b c i hit
                    have hdA : decide ((c : Int) ∈ nth t i) = true := decide_eq_true hT.1
                    have hrr2 : ((mixL t b c i).set i (nth (runsO t b) i + 1)).length = t.length := by simp [mixL_len]
                    have hnn : nth ((mixL t b c i).set i (nth (runsO t b) i + 1)) i = nth (runsO t b) i + 1 := by rw [set_nth _ _ _ _ (by omega), if_pos rfl]
                    rw [hsn] at e2 hgm
                    rcases Nat.eq_zero_or_pos b.length with h0 | h0
                    · obtain rfl := List.length_eq_zero_iff.1 h0
                      (repeat' (first | refine NextAt.mk (fun hc => ?_) (fun pre n v post hc hkey => ?_) | refine Sni.mk (fun hc => ?_) ?_ | refine Both.mk ?_ ?_ | refine AW_seq ?_ | refine AW_block ?_ | ((first | refine AW_reg ?_ | refine AW_cond ?_ | refine AW_skip ?_ | refine AW_exit ?_ | refine AW_ret ?_ | refine AW_regD (by kernel_rfl) ?_ | refine AW_regX (by kernel_rfl) ?_ | refine CallAtG.t (Eq.refl true) ?_ | refine CallAtG.f (Eq.refl false) ?_); try simp (disch := omega) only [go_sem, seval, reduceCtorEq, ↓reduceIte, beq_dec, Int.toNat_natCast, IntKind.signed, IntKind.bits, hdi, hdA, SBox, iset', hrr2, hnn, getD_map (fun r : List Int => [BRow (inB n r)]), getD_map (fun x : Bool => [CD.B x]), getD_map (fun x : Int => [CD.I x]), toNat_pred, hml, hmn, hbil, hbin, List.getD_nil, List.headD_nil]) | refine And.intro (fun hc => (?_ : AW _ _ _ _)) (fun hc => (?_ : AW _ _ _ _)) | simp (disch := omega) only [go_sem, seval, reduceCtorEq, ↓reduceIte, beq_dec, Int.toNat_natCast, IntKind.signed, IntKind.bits, hdi, hdA, SBox, iset', hrr2, hnn, getD_map (fun r : List Int => [BRow (inB n r)]), getD_map (fun x : Bool => [CD.B x]), getD_map (fun x : Int => [CD.I x]), toNat_pred, hml, hmn, hbil, hbin, List.getD_nil, List.headD_nil] | (refine And.intro ?_ ?_; focus (first | (intros; omega) | (intros; simp_all; done))) | refine And.intro (?_ : CallAt _ _ _ _ _ _ _ _) ?_ | refine And.intro (?_ : CallAt _ _ _ _ _ _ _ _ ∧ _) ?_ | refine And.intro (?_ : AW _ _ _ _) ?_ | fail))
                      all_goals
                        refine .mk (i + 1) (by omega) (by omega) ?_
                        first
                        | (have hgs : gapN ((mixL t [] c i).set i (nth (runsO t []) i + 1)) t.length = gapN (mixL t [] c i) t.length + 1 := by omega
                           simp (disch := omega) only [go_sem, seval, reduceCtorEq, ↓reduceIte, beq_dec, Int.toNat_natCast, IntKind.signed, IntKind.bits, Int.natCast_add, Int.natCast_one, e2, hgs]
                           done)
                        | (have hgs : gapN ((mixL t [] c i).set i (nth (runsO t []) i + 1)) t.length = gapN (mixL t [] c i) t.length := by omega
                           simp (disch := omega) only [go_sem, seval, reduceCtorEq, ↓reduceIte, beq_dec, Int.toNat_natCast, IntKind.signed, IntKind.bits, Int.natCast_add, Int.natCast_one, e2, hgs]
                           done)
                    · have hd0 : decide (0 < (b.length : Int)) = true := decide_eq_true (by omega)
                      have hll := hlast (by omega)
                      have hbl : nth (inB n (nth t i)) (nth b (b.length - 1)).toNat = decide (nth b (b.length - 1) ∈ nth t i) := by
                        rw [inB_nth (by omega), show (((nth b (b.length - 1)).toNat : Nat) : Int) = nth b (b.length - 1) by omega]
                      have hdL : decide (nth b (b.length - 1) ∈ nth t i) = false := decide_eq_false (hT.2.resolve_left (by omega))
                      (repeat' (first | refine NextAt.mk (fun hc => ?_) (fun pre n v post hc hkey => ?_) | refine Sni.mk (fun hc => ?_) ?_ | refine Both.mk ?_ ?_ | refine AW_seq ?_ | refine AW_block ?_ | ((first | refine AW_reg ?_ | refine AW_cond ?_ | refine AW_skip ?_ | refine AW_exit ?_ | refine AW_ret ?_ | refine AW_regD (by kernel_rfl) ?_ | refine AW_regX (by kernel_rfl) ?_ | refine CallAtG.t (Eq.refl true) ?_ | refine CallAtG.f (Eq.refl false) ?_); try simp (disch := omega) only [go_sem, seval, reduceCtorEq, ↓reduceIte, beq_dec, Int.toNat_natCast, IntKind.signed, IntKind.bits, hdi, hdA, hd0, hbl, hdL, SBox, iset', hrr2, hnn, getD_map (fun r : List Int => [BRow (inB n r)]), getD_map (fun x : Bool => [CD.B x]), getD_map (fun x : Int => [CD.I x]), toNat_pred, hml, hmn, hbil, hbin, List.getD_nil, List.headD_nil]) | refine And.intro (fun hc => (?_ : AW _ _ _ _)) (fun hc => (?_ : AW _ _ _ _)) | simp (disch := omega) only [go_sem, seval, reduceCtorEq, ↓reduceIte, beq_dec, Int.toNat_natCast, IntKind.signed, IntKind.bits, hdi, hdA, hd0, hbl, hdL, SBox, iset', hrr2, hnn, getD_map (fun r : List Int => [BRow (inB n r)]), getD_map (fun x : Bool => [CD.B x]), getD_map (fun x : Int => [CD.I x]), toNat_pred, hml, hmn, hbil, hbin, List.getD_nil, List.headD_nil] | (refine And.intro ?_ ?_; focus (first | (intros; omega) | (intros; simp_all; done))) | refine And.intro (?_ : CallAt _ _ _ _ _ _ _ _) ?_ | refine And.intro (?_ : CallAt _ _ _ _ _ _ _ _ ∧ _) ?_ | refine And.intro (?_ : AW _ _ _ _) ?_ | fail))
                      all_goals
                        refine .mk (i + 1) (by omega) (by omega) ?_
                        first
                        | (have hgs : gapN ((mixL t b c i).set i (nth (runsO t b) i + 1)) t.length = gapN (mixL t b c i) t.length + 1 := by omega
                           simp (disch := omega) only [go_sem, seval, reduceCtorEq, ↓reduceIte, beq_dec, Int.toNat_natCast, IntKind.signed, IntKind.bits, Int.natCast_add, Int.natCast_one, e2, hgs]
                           done)
                        | (have hgs : gapN ((mixL t b c i).set i (nth (runsO t b) i + 1)) t.length = gapN (mixL t b c i) t.length := by omega
                           simp (disch := omega) only [go_sem, seval, reduceCtorEq, ↓reduceIte, beq_dec, Int.toNat_natCast, IntKind.signed, IntKind.bits, Int.natCast_add, Int.natCast_one, e2, hgs]
                           done)
end Go.Proofs.Ytciglfmfemidnaa

-- P p_30s.txt
open Go Go.AL Go.RowKit
namespace Go.Proofs.Ytciglfmfemidnaa
set_option maxRecDepth 20000

theorem leastV_pl (n : Int) (t : List (List Int)) : leastV n t = pl n.toNat t n.toNat [] ([], -1) := (pl_eq t n.toNat [] ([], -1)).symm
theorem rowsO_nil (t : List (List Int)) : runsO t [] = List.replicate t.length 0 := by
  unfold runsO
  rw [List.eq_replicate_iff]
  refine ⟨by simp, fun x hx => ?_⟩
  simp only [List.mem_map] at hx
  obtain ⟨r, _, rfl⟩ := hx
  rfl
theorem gapN_zeros (k : Nat) : ∀ m, gapN (List.replicate k 0) m = 0
  | 0 => rfl
  | m + 1 => by
    have h : nth (List.replicate k (0 : Int)) m = 0 := by
      unfold nth
      rw [List.getD_eq_getElem?_getD, List.getElem?_replicate]
      split <;> rfl
    simp only [gapN, gapN_zeros k m, h]; omega
theorem gapO_nil (t : List (List Int)) : gapO t [] = 0 := by unfold gapO; rw [rowsO_nil, gapN_zeros]
theorem hold32 {Q : Exit → St → Prop} {σ : St} (h : Hold (AW Try.prog c12_6 Q σ)) : AW Try.prog c12_6 Q σ := h.out
theorem rh15 : rh 15 = 2015 := rfl
theorem rh13 : rh 13 = 2013 := rfl
theorem rp15 : rp 1002015 = 2015 := rfl
theorem rp13 : rp 1002013 = 2013 := rfl
theorem rp50 : rp 5000 = 5000 := rfl
theorem w32 (n : Int) (t : List (List Int)) (hv : 0 ≤ n ∧ n ≤ 7) (ht : t.length ≤ 1000) (hr : ∀ i, i < t.length → (nth t i).length ≤ 1000 ∧ ∀ x ∈ nth t i, 0 ≤ x ∧ x < n) :
    FnR Try.prog 12 [.I n, .c (Tab t)] [.c (bestD (leastV n t)), .c (.I (leastV n t).2)] := by
  rw [leastV_pl]
  obtain ⟨m, rfl⟩ : ∃ m : Nat, n = m := ⟨n.toNat, by omega⟩
  simp only [Int.toNat_natCast]
  have g35 := FnP.high (w35 m t ⟨by omega, by omega⟩ ht hr)
  have g42 := FnW.unpin (w42 m t (by omega) ht m [] ([], -1) ⟨by simp, by simp⟩ (by simp) (by simp))
  rw [gapO_nil, rowsO_nil] at g42
  simp only [Row, SBox, renL, AV.ren, renOb, AO.ren, List.map_cons, List.map_nil, List.map_replicate, rh15, rh13, rp15, rp13, rp50, inB_nil, Int.toNat_natCast] at g35 g42
  have hb0 : bestD ([], -1) = .nil := rfl
  rw [hb0] at g42
  refine fn_walk code12 (by simp) ?_
  (repeat' (first | (with_reducible refine hold32 ?_; try simp (disch := omega) only [go_sem, seval, reduceCtorEq, ↓reduceIte, beq_dec, Int.toNat_natCast, IntKind.signed, IntKind.bits]) | refine NextAt.mk (fun hc => ?_) (fun pre n v post hc hkey => ?_) | refine Sni.mk (fun hc => ?_) ?_ | refine Both.mk ?_ ?_ | refine AW_seq ?_ | refine AW_block ?_ | ((first | refine AW_reg ?_ | refine AW_cond ?_ | refine AW_skip ?_ | refine AW_exit ?_ | refine AW_ret ?_ | refine AW_regD (by kernel_rfl) ?_ | refine AW_regX (by kernel_rfl) ?_ | refine CallAt.mkP (g35 ..) (by rfl) (by simp (disch := omega) only [go_sem, seval, reduceCtorEq, ↓reduceIte, beq_dec, Int.toNat_natCast, IntKind.signed, IntKind.bits]) (by rfl) (by rfl) (by first | (intro h; cases h; done) | (intro _; simp [RV.flatP, CD.flatP, flatOb, AO.flatP]; done)) ?_ | refine CallAtG.t (Eq.refl true) ?_ | refine CallAtG.f (Eq.refl false) ?_); try simp (disch := omega) only [go_sem, seval, reduceCtorEq, ↓reduceIte, beq_dec, Int.toNat_natCast, IntKind.signed, IntKind.bits]) | refine And.intro (fun hc => (?_ : AW _ _ _ _)) (fun hc => (?_ : AW _ _ _ _)) | simp (disch := omega) only [go_sem, seval, reduceCtorEq, ↓reduceIte, beq_dec, Int.toNat_natCast, IntKind.signed, IntKind.bits] | (refine And.intro ?_ ?_; focus (first | (intros; omega) | (intros; simp_all; done))) | refine And.intro (?_ : CallAt _ _ _ _ _ _ _ _) ?_ | refine And.intro (?_ : CallAt _ _ _ _ _ _ _ _ ∧ _) ?_ | refine And.intro (?_ : AW _ _ _ _) ?_ | fail))
  refine Hold.mk ?_
  refine AW_nilB 2015 2 5000 3 1 44 _ rfl rfl ?_
  simp (disch := omega) only [go_sem, seval, reduceCtorEq, ↓reduceIte, beq_dec, Int.toNat_natCast, IntKind.signed, IntKind.bits]
  (repeat' (first | refine NextAt.mk (fun hc => ?_) (fun pre n v post hc hkey => ?_) | refine Sni.mk (fun hc => ?_) ?_ | refine Both.mk ?_ ?_ | refine AW_seq ?_ | refine AW_block ?_ | ((first | refine AW_reg ?_ | refine AW_cond ?_ | refine AW_skip ?_ | refine AW_exit ?_ | refine AW_ret ?_ | refine AW_regD (by kernel_rfl) ?_ | refine AW_regX (by kernel_rfl) ?_ | refine CallAtG.t (Eq.refl true) ?_ | refine CallAtG.f (Eq.refl false) ?_); try simp (disch := omega) only [go_sem, seval, reduceCtorEq, ↓reduceIte, beq_dec, Int.toNat_natCast, IntKind.signed, IntKind.bits, maxLen, Int.toNat_natCast]) | refine And.intro (fun hc => (?_ : AW _ _ _ _)) (fun hc => (?_ : AW _ _ _ _)) | simp (disch := omega) only [go_sem, seval, reduceCtorEq, ↓reduceIte, beq_dec, Int.toNat_natCast, IntKind.signed, IntKind.bits, maxLen, Int.toNat_natCast] | (refine And.intro ?_ ?_; focus (first | (intros; omega) | (intros; simp_all; done))) | refine And.intro (?_ : CallAt _ _ _ _ _ _ _ _) ?_ | refine And.intro (?_ : CallAt _ _ _ _ _ _ _ _ ∧ _) ?_ | refine And.intro (?_ : AW _ _ _ _) ?_ | fail))
  refine CallAt.frz [13] ?_
  simp (disch := omega) only [go_sem, seval, reduceCtorEq, ↓reduceIte, beq_dec, Int.toNat_natCast, IntKind.signed, IntKind.bits]
  (repeat' (first | refine NextAt.mk (fun hc => ?_) (fun pre n v post hc hkey => ?_) | refine Sni.mk (fun hc => ?_) ?_ | refine Both.mk ?_ ?_ | refine AW_seq ?_ | refine AW_block ?_ | ((first | refine AW_reg ?_ | refine AW_cond ?_ | refine AW_skip ?_ | refine AW_exit ?_ | refine AW_ret ?_ | refine AW_regD (by kernel_rfl) ?_ | refine AW_regX (by kernel_rfl) ?_ | refine CallAt.mkW (g42 ..) (by rfl) (by simp (disch := omega) only [go_sem, seval, reduceCtorEq, ↓reduceIte, beq_dec, Int.toNat_natCast, IntKind.signed, IntKind.bits]) (by rfl) (by rfl) (by first | (intro h; cases h; done) | (intro _; simp [RV.flatP, CD.flatP, flatOb, AO.flatP]; done)) ?_ | refine CallAtG.t (Eq.refl true) ?_ | refine CallAtG.f (Eq.refl false) ?_); try simp (disch := omega) only [go_sem, seval, reduceCtorEq, ↓reduceIte, beq_dec, Int.toNat_natCast, IntKind.signed, IntKind.bits]) | refine And.intro (fun hc => (?_ : AW _ _ _ _)) (fun hc => (?_ : AW _ _ _ _)) | simp (disch := omega) only [go_sem, seval, reduceCtorEq, ↓reduceIte, beq_dec, Int.toNat_natCast, IntKind.signed, IntKind.bits] | (refine And.intro ?_ ?_; focus (first | (intros; omega) | (intros; simp_all; done))) | refine And.intro (?_ : CallAt _ _ _ _ _ _ _ _) ?_ | refine And.intro (?_ : CallAt _ _ _ _ _ _ _ _ ∧ _) ?_ | refine And.intro (?_ : AW _ _ _ _) ?_ | fail))
theorem valid_rows {n : Int} {t : List (List Int)} (h : validT n t = true) : 0 ≤ n ∧ n ≤ 7 ∧ t.length ≤ 16 ∧ ∀ i, i < t.length → (nth t i).length ≤ 1000 ∧ ∀ x ∈ nth t i, 0 ≤ x ∧ x < n := by
  obtain ⟨h1, h2, h3, h4⟩ := validT_of h
  refine ⟨h1, h2, h3, fun i hi => ⟨by have := asc_len (h4 i hi); omega, fun x hx => ?_⟩⟩
  have := asc_mem (h4 i hi) hx
  omega
def leastD (n : Int) (t : List (List Int)) : CD := if validT n t = true then Row (leastV n t).1 else .nil
def leastG (n : Int) (t : List (List Int)) : Int := if validT n t = true then (leastV n t).2 else 0
def valE (n : Int) (t : List (List Int)) : Int := if validT n t = true then 0 else 1
theorem w13 (n : Int) (t : List (List Int)) : FnR Try.prog 6 [.I n, .c (Tab t)] [.c (leastD n t), .c (.I (leastG n t)), .c (.I (valE n t))] := by
  have g38 := f38 n t
  unfold leastD leastG valE
  refine fn_walk code6 (by simp) ?_
  cases hv : validT n t with
  | false =>
    rw [hv] at g38
    simp only [Bool.false_eq_true, if_false]
    (repeat' (first | refine NextAt.mk (fun hc => ?_) (fun pre n v post hc hkey => ?_) | refine Sni.mk (fun hc => ?_) ?_ | refine Both.mk ?_ ?_ | refine AW_seq ?_ | refine AW_block ?_ | ((first | refine AW_reg ?_ | refine AW_cond ?_ | refine AW_skip ?_ | refine AW_exit ?_ | refine AW_ret ?_ | refine AW_regD (by kernel_rfl) ?_ | refine AW_regX (by kernel_rfl) ?_ | refine CallAtG.t (Eq.refl true) ?_ | refine CallAtG.f (Eq.refl false) ?_ | refine CallAt.mk _ (g38 ..) (by first | (intro h; cases h; done) | (intro _; repeat' (first | exact List.forall_mem_nil _ | trivial | refine List.forall_mem_cons.2 ⟨?_, ?_⟩)) | (intro _; simp [RV.flatP, CD.flatP]; done)) ?_ | refine CallAtG.mk _ (fun _ => g38 ..) ?_ | refine CallDS.mk _ (by simp [RV.data]) (fun _ => g38 ..) (by first | (intro h; cases h; done) | (intro _; repeat' (first | exact List.forall_mem_nil _ | trivial | refine List.forall_mem_cons.2 ⟨?_, ?_⟩)) | (intro _; simp [RV.flatP, CD.flatP]; done)) ?_); try simp (disch := omega) only [go_sem, seval, reduceCtorEq, ↓reduceIte, beq_dec, Int.toNat_natCast, IntKind.signed, IntKind.bits]) | refine And.intro (fun hc => (?_ : AW _ _ _ _)) (fun hc => (?_ : AW _ _ _ _)) | simp (disch := omega) only [go_sem, seval, reduceCtorEq, ↓reduceIte, beq_dec, Int.toNat_natCast, IntKind.signed, IntKind.bits] | (refine And.intro ?_ ?_; focus (first | (intros; omega) | (intros; simp_all; done))) | refine And.intro (?_ : CallAt _ _ _ _ _ _ _ _) ?_ | refine And.intro (?_ : CallAt _ _ _ _ _ _ _ _ ∧ _) ?_ | refine And.intro (?_ : AW _ _ _ _) ?_ | fail))
  | true =>
    rw [hv] at g38
    obtain ⟨h1, h2, h3, h4⟩ := valid_rows hv
    have g32 := w32 n t ⟨h1, h2⟩ (by omega) h4
    obtain ⟨s1, s2, s3, s4⟩ := least_spec hv
    rw [show bestD (leastV n t) = Row (leastV n t).1 by unfold bestD; rw [if_neg (by omega)]] at g32
    simp only [if_true]
    (repeat' (first | refine NextAt.mk (fun hc => ?_) (fun pre n v post hc hkey => ?_) | refine Sni.mk (fun hc => ?_) ?_ | refine Both.mk ?_ ?_ | refine AW_seq ?_ | refine AW_block ?_ | ((first | refine AW_reg ?_ | refine AW_cond ?_ | refine AW_skip ?_ | refine AW_exit ?_ | refine AW_ret ?_ | refine AW_regD (by kernel_rfl) ?_ | refine AW_regX (by kernel_rfl) ?_ | refine CallAtG.t (Eq.refl true) ?_ | refine CallAtG.f (Eq.refl false) ?_ | refine CallAt.mk _ (g38 ..) (by first | (intro h; cases h; done) | (intro _; repeat' (first | exact List.forall_mem_nil _ | trivial | refine List.forall_mem_cons.2 ⟨?_, ?_⟩)) | (intro _; simp [RV.flatP, CD.flatP]; done)) ?_ | refine CallAtG.mk _ (fun _ => g38 ..) ?_ | refine CallDS.mk _ (by simp [RV.data]) (fun _ => g38 ..) (by first | (intro h; cases h; done) | (intro _; repeat' (first | exact List.forall_mem_nil _ | trivial | refine List.forall_mem_cons.2 ⟨?_, ?_⟩)) | (intro _; simp [RV.flatP, CD.flatP]; done)) ?_ | refine CallAt.mk _ (g32 ..) (by first | (intro h; cases h; done) | (intro _; repeat' (first | exact List.forall_mem_nil _ | trivial | refine List.forall_mem_cons.2 ⟨?_, ?_⟩)) | (intro _; simp [RV.flatP, CD.flatP]; done)) ?_ | refine CallAtG.mk _ (fun _ => g32 ..) ?_ | refine CallDS.mk _ (by simp [RV.data]) (fun _ => g32 ..) (by first | (intro h; cases h; done) | (intro _; repeat' (first | exact List.forall_mem_nil _ | trivial | refine List.forall_mem_cons.2 ⟨?_, ?_⟩)) | (intro _; simp [RV.flatP, CD.flatP]; done)) ?_); try simp (disch := omega) only [go_sem, seval, reduceCtorEq, ↓reduceIte, beq_dec, Int.toNat_natCast, IntKind.signed, IntKind.bits]) | refine And.intro (fun hc => (?_ : AW _ _ _ _)) (fun hc => (?_ : AW _ _ _ _)) | simp (disch := omega) only [go_sem, seval, reduceCtorEq, ↓reduceIte, beq_dec, Int.toNat_natCast, IntKind.signed, IntKind.bits] | (refine And.intro ?_ ?_; focus (first | (intros; omega) | (intros; simp_all; done))) | refine And.intro (?_ : CallAt _ _ _ _ _ _ _ _) ?_ | refine And.intro (?_ : CallAt _ _ _ _ _ _ _ _ ∧ _) ?_ | refine And.intro (?_ : AW _ _ _ _) ?_ | fail))
end Go.Proofs.Ytciglfmfemidnaa

