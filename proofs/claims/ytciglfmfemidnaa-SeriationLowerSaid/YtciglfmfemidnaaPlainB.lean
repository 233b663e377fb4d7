/-
  Lemmas for the proof: no statement of its own.
-/
import Derived.Test.YtciglfmfemidnaaWalkF
set_option linter.unusedVariables false
set_option linter.unusedSimpArgs false
open Go Go.AL Go.RowKit
namespace Go.Proofs.Ytciglfmfemidnaa
set_option maxRecDepth 20000
/-! ### dividing a group of rows -/
def gp (r o : List Int) : Int := max (((runsN r o o.length : Nat) : Int) - 1) 0
theorem gapN_same {a b : List Int} (k : Nat) (h : ∀ i, i < k → nth a i = nth b i) : gapN a k = gapN b k := Int.le_antisymm (gapN_mono k fun i hi => Int.le_of_eq (h i hi)) (gapN_mono k fun i hi => Int.le_of_eq (h i hi).symm)
theorem gapO_snoc (t : List (List Int)) (r o : List Int) : gapO (t ++ [r]) o = gapO t o + gp r o := by
  unfold gapO
  have hn : ∀ i, i < t.length → nth (t ++ [r]) i = nth t i := fun i hi => by
    rw [nth_eq _ i (by simp; omega), nth_eq t i hi, List.getElem_append_left hi]
  have hl : nth (t ++ [r]) t.length = r := by rw [nth_eq _ _ (by simp)]; simp
  have h1 : gapN (runsO (t ++ [r]) o) t.length = gapN (runsO t o) t.length := gapN_same _ fun i hi => by
    rw [runsO_nth (by simp; omega), runsO_nth hi, hn i hi]
  rw [show (t ++ [r]).length = t.length + 1 by simp]
  simp only [gapN]
  rw [h1, runsO_nth (by simp), hl]
  rfl
/-- the indexes below k with p -/
def sel (p : Nat → Bool) (k : Nat) : List Int := ((List.range k).filter p).map fun (i : Nat) => (i : Int)
theorem sel_succ (p : Nat → Bool) (k : Nat) : sel p (k + 1) = sel p k ++ if p k then [(k : Int)] else [] := by
  unfold sel
  rw [List.range_succ, List.filter_append, List.map_append]
  congr 1
  simp only [List.filter_cons, List.filter_nil]
  split <;> rfl
theorem sel_len (p : Nat → Bool) (k : Nat) : (sel p k).length ≤ k := by
  unfold sel; rw [List.length_map]
  exact Nat.le_trans (List.length_filter_le _ _) (by simp)
theorem sel_mem {p : Nat → Bool} {k : Nat} {x : Int} : x ∈ sel p k ↔ ∃ i, i < k ∧ p i = true ∧ (i : Int) = x := by
  unfold sel
  simp only [List.mem_map, List.mem_filter, List.mem_range, and_assoc]
theorem sel_pw (p : Nat → Bool) (k : Nat) : (sel p k).Pairwise (· < ·) := by
  unfold sel
  rw [List.pairwise_map]
  exact (List.Pairwise.filter _ List.pairwise_lt_range).imp fun h => by omega
theorem sel_congr {p q : Nat → Bool} {k : Nat} (h : ∀ i, i < k → p i = q i) : sel p k = sel q k := by
  unfold sel
  rw [List.filter_congr fun i hi => h i (List.mem_range.1 hi)]
theorem gap_sel (t : List (List Int)) (o : List Int) (p : Nat → Bool) (k : Nat) : gapO (prtT t (sel p (k + 1))) o = gapO (prtT t (sel p k)) o + if p k then gp (nth t k) o else 0 := by
  rw [sel_succ]
  cases p k with
  | false => simp
  | true =>
    rw [if_pos rfl, if_pos rfl]
    have : prtT t (sel p k ++ [(k : Int)]) = prtT t (sel p k) ++ [nth t k] := by simp [prtT]
    rw [this, gapO_snoc]
theorem gap_add {t : List (List Int)} {o : List Int} {p q r : Nat → Bool} (h : ∀ i, r i = (p i || q i)) (hd : ∀ i, ¬ (p i = true ∧ q i = true)) : ∀ k, gapO (prtT t (sel r k)) o = gapO (prtT t (sel p k)) o + gapO (prtT t (sel q k)) o
  | 0 => by simp [sel, prtT, gapO, gapN]
  | k + 1 => by
    have ih := gap_add (t := t) (o := o) h hd k
    have h1 := h k
    have h2 := hd k
    rw [gap_sel, gap_sel, gap_sel, ih, h1]
    rcases Bool.eq_false_or_eq_true (p k) with hp | hp <;> rcases Bool.eq_false_or_eq_true (q k) with hq | hq <;> rw [hp, hq] at h2 ⊢
    · exact absurd ⟨rfl, rfl⟩ h2
    all_goals (simp; try omega)
def lstG (n : Int) (t : List (List Int)) (p : Nat → Bool) : Int := (leastV n (prtT t (sel p t.length))).2
theorem sel_valid {n : Int} {t : List (List Int)} (hv : validT n t = true) (p : Nat → Bool) : validT n (prtT t (sel p t.length)) = true := by
  refine prt_valid hv (fun x hx => ?_) (sel_len _ _)
  obtain ⟨i, hi, _, rfl⟩ := sel_mem.1 hx
  omega
theorem lst_add {n : Int} {t : List (List Int)} (hv : validT n t = true) {p q r : Nat → Bool} (h : ∀ i, r i = (p i || q i)) (hd : ∀ i, ¬ (p i = true ∧ q i = true)) : lstG n t p + lstG n t q ≤ lstG n t r := by
  obtain ⟨a1, a2, _, _⟩ := least_spec (sel_valid hv r)
  obtain ⟨_, _, _, b4⟩ := least_spec (sel_valid hv p)
  obtain ⟨_, _, _, c4⟩ := least_spec (sel_valid hv q)
  have h1 := b4 _ a1
  have h2 := c4 _ a1
  have h3 := gap_add (t := t) (o := (leastV n (prtT t (sel r t.length))).1) h hd t.length
  unfold lstG
  omega
theorem sel_true (k : Nat) : sel (fun _ => true) k = (List.range k).map fun (i : Nat) => (i : Int) := by
  unfold sel; rw [List.filter_eq_self.2 (fun _ _ => rfl)]
theorem sel_all (t : List (List Int)) : prtT t (sel (fun _ => true) t.length) = t := by
  rw [sel_true]
  refine nth_extT (by simp [prtT]) fun j hj => ?_
  have hj' : j < t.length := by simpa [prtT] using hj
  rw [nth_prt (by simpa using hj')]
  congr 1
  rw [nth_eq _ j (by simpa using hj')]
  simp
/-- the groups by d, of the indexes below k -/
def tabD (m : Nat) (d : Nat → Nat) (k : Nat) : List (List Int) := (List.range m).map fun r => sel (fun i => decide (d i = r)) k
theorem tabD_len (m : Nat) (d : Nat → Nat) (k : Nat) : (tabD m d k).length = m := by simp [tabD]
theorem tabD_nth {m : Nat} {d : Nat → Nat} {k r : Nat} (h : r < m) : nth (tabD m d k) r = sel (fun i => decide (d i = r)) k := by
  rw [nth_eq _ r (by rw [tabD_len]; exact h)]; simp [tabD]
theorem tabD_succ {m : Nat} {d : Nat → Nat} {k : Nat} : tabD m d (k + 1) = (tabD m d k).set (d k) ((tabD m d k).getD (d k) [] ++ [(k : Int)]) := by
  refine List.ext_getElem (by simp [tabD]) fun r h1 h2 => ?_
  have hr : r < m := by rw [tabD_len] at h1; exact h1
  rw [List.getElem_set]
  simp only [tabD, List.getElem_map, List.getElem_range, sel_succ]
  by_cases e : d k = r
  · subst e
    simp [List.getD, hr]
  · simp [e]
theorem tabD_ok (m : Nat) (d : Nat → Nat) (T : Nat) : gsOk T (tabD m d T) = true := decide_eq_true fun i hi j hj => by
  rw [tabD_len] at hi
  unfold gOk seenL
  rw [tabD_nth hi] at hj ⊢
  have hpw := List.pairwise_iff_getElem.1 (sel_pw (fun k => decide (d k = i)) T)
  have hm := nth_mem _ j hj
  obtain ⟨k, hk, hd, e⟩ := sel_mem.1 hm
  simp only [decide_eq_true_eq] at hd
  refine ⟨by omega, ?_, ?_⟩
  · rcases Nat.eq_zero_or_pos j with h | h
    · exact .inl h
    · right
      rw [nth_eq _ _ (by omega), nth_eq _ _ hj]
      exact hpw (j - 1) j (by omega) hj (by omega)
  · intro hx
    rcases List.mem_append.1 hx with hx | hx
    · obtain ⟨row, h1, h2⟩ := List.mem_flatten.1 hx
      obtain ⟨r, h3, h4⟩ := List.getElem_of_mem h1
      rw [List.length_take, tabD_len] at h3
      rw [List.getElem_take] at h4
      have h5 : row = sel (fun k => decide (d k = r)) T := by rw [← h4]; simp [tabD]
      rw [h5] at h2
      obtain ⟨k', _, hd', e'⟩ := sel_mem.1 h2
      simp only [decide_eq_true_eq] at hd'
      have : k = k' := by omega
      subst this
      omega
    · obtain ⟨r, h3, h4⟩ := List.getElem_of_mem hx
      rw [List.length_take] at h3
      rw [List.getElem_take, nth_eq _ j hj] at h4
      have := hpw r j (by omega) hj (by omega)
      omega
theorem bnd_err {n : Int} {t : List (List Int)} (m : Nat) (d : Nat → Nat) : bndE n t (tabD m d t.length) = valE n t := by
  unfold bndE valE; rw [tabD_ok]; simp
theorem bnd_val {n : Int} {t : List (List Int)} (hv : validT n t = true) (m : Nat) (d : Nat → Nat) : bndV n t (tabD m d t.length) = sumG n t (tabD m d t.length) m := by
  unfold bndV
  rw [bnd_err, tabD_len]
  unfold valE
  rw [if_pos hv, if_pos rfl]
theorem sum_succ {n : Int} {t : List (List Int)} {m : Nat} (d : Nat → Nat) {k : Nat} (h : k < m) : sumG n t (tabD m d t.length) (k + 1) = sumG n t (tabD m d t.length) k + lstG n t (fun i => decide (d i = k)) := by
  simp only [sumG]
  rw [tabD_nth h]; rfl
theorem lst_congr {n : Int} {t : List (List Int)} {p q : Nat → Bool} (h : ∀ i, p i = q i) : lstG n t p = lstG n t q := by
  unfold lstG; rw [sel_congr fun i _ => h i]
/-- what the statement says -/
theorem lower {n : Int} {t : List (List Int)} (hv : validT n t = true) (c : Nat → Nat) (hc : ∀ i, c i < 4) :
    bndV n t (tabD 4 c t.length) ≤ bndV n t (tabD 3 (fun i => min (c i) 2) t.length) ∧ bndV n t (tabD 3 (fun i => min (c i) 2) t.length) ≤ bndV n t (tabD 1 (fun _ => 0) t.length) ∧ bndV n t (tabD 1 (fun _ => 0) t.length) = (leastV n t).2 := by
  rw [bnd_val hv, bnd_val hv, bnd_val hv]
  rw [sum_succ (m := 4) c (k := 3) (by omega), sum_succ (m := 4) c (k := 2) (by omega), sum_succ (m := 4) c (k := 1) (by omega), sum_succ (m := 4) c (k := 0) (by omega)]
  rw [sum_succ (m := 3) _ (k := 2) (by omega), sum_succ (m := 3) _ (k := 1) (by omega), sum_succ (m := 3) _ (k := 0) (by omega)]
  rw [sum_succ (m := 1) _ (k := 0) (by omega)]
  simp only [sumG]
  have e0 : lstG n t (fun i => decide (min (c i) 2 = 0)) = lstG n t (fun i => decide (c i = 0)) := lst_congr fun i => by
    rw [decide_eq_decide]; omega
  have e1 : lstG n t (fun i => decide (min (c i) 2 = 1)) = lstG n t (fun i => decide (c i = 1)) := lst_congr fun i => by
    rw [decide_eq_decide]; omega
  have e2 := lst_add hv (p := fun i => decide (c i = 2)) (q := fun i => decide (c i = 3)) (r := fun i => decide (min (c i) 2 = 2)) (fun i => by
    have := hc i
    rw [Bool.eq_iff_iff]; simp; omega) (fun i => by simp; omega)
  have e3 := lst_add hv (p := fun i => decide (c i = 0)) (q := fun i => decide (c i = 1)) (r := fun i => decide (c i ≤ 1)) (fun i => by
    rw [Bool.eq_iff_iff]; simp; omega) (fun i => by simp; omega)
  have e4 := lst_add hv (p := fun i => decide (c i ≤ 1)) (q := fun i => decide (min (c i) 2 = 2)) (r := fun _ => decide ((0 : Nat) = 0)) (fun i => by
    rw [Bool.eq_iff_iff]; simp; omega) (fun i => by simp; omega)
  have e5 : lstG n t (fun _ => decide ((0 : Nat) = 0)) = (leastV n t).2 := by
    have : lstG n t (fun _ => decide ((0 : Nat) = 0)) = lstG n t (fun _ => true) := lst_congr fun _ => rfl
    rw [this]; unfold lstG; rw [sel_all]
  have e6 : lstG n t (fun _ => decide True) = lstG n t (fun _ => decide ((0 : Nat) = 0)) := lst_congr fun _ => by simp
  rw [e0, e1]
  try rw [e6]
  omega
end Go.Proofs.Ytciglfmfemidnaa

