/-
  Lemmas for the proof: no statement of its own.
-/
import Derived.Test.YtgldpbghbkoolaaWalkP
set_option linter.unusedVariables false
set_option linter.unusedSimpArgs false
-- P p_15.txt
open Go Go.AL Go.RowKit
namespace Go.Proofs.Ytgldpbghbkoolaa
set_option maxRecDepth 20000
/-! ### the groups by their first links -/
section
variable (is : Nat → Bool) (cls : Nat → Nat) (ids : List Int)
/-- the first of its group -/
def hdB (i : Nat) : Bool := !is i && decide (∀ j, j < i → is j = false → cls j ≠ cls i)
def hdL (k : Nat) : List Nat := (List.range k).filter (hdB is cls)
/-- the links of a group, among the first k -/
def gpL (k i : Nat) : List Int := ((List.range k).filter fun j => !is j && decide (cls j = cls i)).map (nth ids)
/-- .. from i on -/
def gpF (i k : Nat) : List Int := ((List.range k).filter fun j => decide (i ≤ j) && (!is j && decide (cls j = cls i))).map (nth ids)
variable {is cls ids}
theorem hdB_iff {i : Nat} : hdB is cls i = true ↔ is i = false ∧ ∀ j, j < i → is j = false → cls j ≠ cls i := by
  unfold hdB; rw [Bool.and_eq_true, decide_eq_true_eq]; simp
theorem hdL_succ (k : Nat) : hdL is cls (k + 1) = hdL is cls k ++ if hdB is cls k then [k] else [] := by
  unfold hdL
  rw [List.range_succ, List.filter_append]
  congr 1
  simp only [List.filter_cons, List.filter_nil]
theorem hdL_mem {k i : Nat} : i ∈ hdL is cls k ↔ i < k ∧ hdB is cls i = true := by unfold hdL; rw [List.mem_filter, List.mem_range]
theorem gpL_succ (k i : Nat) : gpL is cls ids (k + 1) i = gpL is cls ids k i ++ if is k = false ∧ cls k = cls i then [nth ids k] else [] := by
  unfold gpL
  rw [List.range_succ, List.filter_append, List.map_append]
  congr 1
  simp only [List.filter_cons, List.filter_nil]
  cases is k <;> by_cases h : cls k = cls i <;> simp [h]
theorem gpF_succ (i k : Nat) : gpF is cls ids i (k + 1) = gpF is cls ids i k ++ if i ≤ k ∧ is k = false ∧ cls k = cls i then [nth ids k] else [] := by
  unfold gpF
  rw [List.range_succ, List.filter_append, List.map_append]
  congr 1
  simp only [List.filter_cons, List.filter_nil]
  by_cases hi : i ≤ k <;> cases is k <;> by_cases h : cls k = cls i <;> simp [h, hi]
theorem gpF_len (i k : Nat) : (gpF is cls ids i k).length ≤ k := by
  unfold gpF; rw [List.length_map]
  exact Nat.le_trans (List.length_filter_le _ _) (by simp)
theorem gpF_zero (i : Nat) : gpF is cls ids i i = [] := by
  unfold gpF
  rw [List.filter_eq_nil_iff.2 (fun j hj => by rw [List.mem_range] at hj; simp; omega)]; rfl
theorem gpF_all {i : Nat} (h : hdB is cls i = true) (k : Nat) : gpF is cls ids i k = gpL is cls ids k i := by
  obtain ⟨_, h⟩ := hdB_iff.1 h
  unfold gpF gpL
  congr 1
  refine List.filter_congr fun j _ => ?_
  by_cases hj : i ≤ j
  · simp [hj]
  · cases his : is j with
    | true => simp [hj]
    | false => have := h j (by omega) his; simp [this]
theorem gpL_none {k i : Nat} (h : ∀ j, j < k → is j = false → cls j ≠ cls i) : gpL is cls ids k i = [] := by
  unfold gpL
  rw [List.filter_eq_nil_iff.2 (fun j hj => by
    rw [List.mem_range] at hj
    cases his : is j with
    | true => simp
    | false => have := h j hj his; simp [this])]; rfl
theorem hd_no {k : Nat} (h : cls k ∈ (hdL is cls k).map cls) : hdB is cls k = false := by
  obtain ⟨i, h1, h2⟩ := List.mem_map.1 h
  obtain ⟨h3, h4⟩ := hdL_mem.1 h1
  cases hd : hdB is cls k with
  | false => rfl
  | true => exact absurd h2 ((hdB_iff.1 hd).2 i h3 (hdB_iff.1 h4).1)
theorem blS_hd : ∀ k, (blS is cls ids k).ks = (hdL is cls k).map cls ∧ (blS is cls ids k).rows = (hdL is cls k).map (gpL is cls ids k)
  | 0 => ⟨rfl, rfl⟩
  | k + 1 => by
    obtain ⟨h1, h2⟩ := blS_hd k
    have hI := blS_inv is cls ids k
    have hs : blS is cls ids (k + 1) = blK is cls ids (blS is cls ids k) k := rfl
    rw [hs, hdL_succ]
    unfold blK
    cases his : is k with
    | true =>
      have hd : hdB is cls k = false := by cases h : hdB is cls k with
        | false => rfl
        | true => exact absurd ((hdB_iff.1 h).1.symm.trans his) (by simp)
      rw [if_pos rfl, hd, if_neg (by simp), List.append_nil]
      refine ⟨h1, h2.trans (List.map_congr_left fun i _ => ?_)⟩
      rw [gpL_succ, if_neg (by simp [his]), List.append_nil]
    | false =>
      rw [if_neg (by simp)]
      generalize blS is cls ids k = s at *
      by_cases hc : cls k ∈ s.ks
      · have hd : hdB is cls k = false := hd_no (h1 ▸ hc)
        have hbT : bsT s (cls k) = s.ks.idxOf (cls k) := by unfold bsT; rw [if_pos hc]
        have hbN : bsN s (cls k) = s := by unfold bsN; rw [if_pos hc]
        rw [hd, if_neg (by simp), List.append_nil, hbN, hbT]
        refine ⟨h1, ?_⟩
        simp only []
        have hlt := List.idxOf_lt_length_iff.2 hc
        have hkl : s.ks.length = (hdL is cls k).length := by rw [h1, List.length_map]
        refine List.ext_getElem (by rw [List.length_set, h2, List.length_map, List.length_map]) fun h p1 p2 => ?_
        rw [List.length_map] at p2
        have hks : s.ks[h]'(by omega) = cls ((hdL is cls k)[h]) := by simp only [h1, List.getElem_map]
        rw [List.getElem_set, List.getElem_map, gpL_succ]
        have hrow : ∀ (q : Nat) (hq : q < (hdL is cls k).length), s.rows.getD q [] = gpL is cls ids k ((hdL is cls k)[q]) := fun q hq => by
          simp only [List.getD, h2, List.getElem?_map, List.getElem?_eq_getElem hq, Option.map_some, Option.getD_some]
        by_cases he : s.ks.idxOf (cls k) = h
        · subst he
          rw [if_pos rfl, hrow _ (by omega), if_pos ⟨his, by rw [← hks]; exact (List.getElem_idxOf hlt).symm⟩]
        · have hne : cls k ≠ cls ((hdL is cls k)[h]) := fun e => he (by
            rw [e, ← hks]
            exact hI.nd.idxOf_getElem h (by omega))
          rw [if_neg he, if_neg (fun h => hne h.2), List.append_nil]
          simp only [h2, List.getElem_map]
      · have hal := hI.all
        have hd : hdB is cls k = true := hdB_iff.2 ⟨his, fun j hj hf e => hc (e ▸ hal j hj hf)⟩
        have hbT : bsT s (cls k) = s.rows.length := by unfold bsT; rw [if_neg hc, hI.len]
        have hbN : bsN s (cls k) = ⟨s.ks ++ [cls k], s.rows ++ [[]]⟩ := by unfold bsN; rw [if_neg hc]
        rw [hd, if_pos rfl, hbN, hbT]
        simp only []
        refine ⟨by rw [h1, List.map_append]; rfl, ?_⟩
        have e1 : (s.rows ++ [[]]).getD s.rows.length [] = ([] : List Int) := by simp [List.getD]
        rw [e1, List.set_append_right _ _ (Nat.le_refl _), Nat.sub_self, List.set_cons_zero, List.map_append]
        congr 1
        · refine h2.trans (List.map_congr_left fun i hi => ?_)
          have hne : cls k ≠ cls i := fun e => hc (by rw [h1, e]; exact List.mem_map_of_mem hi)
          rw [gpL_succ, if_neg (fun h => hne h.2), List.append_nil]
        · simp only [List.map_cons, List.map_nil, List.nil_append]
          have hz : gpL is cls ids k k = [] := gpL_none fun j hj hf e => hc (e ▸ hal j hj hf)
          rw [gpL_succ, if_pos ⟨his, rfl⟩, hz, List.nil_append]
end
section
variable (is : Nat → Bool) (cls : Nat → Nat) (ids : List Int) (L : Nat)
/-- the reference's groups -/
def rbK (s : Bs) (k : Nat) : Bs := if is k = true ∨ cls k ∈ s.ks then s else ⟨s.ks ++ [cls k], s.rows ++ [gpF is cls ids k L]⟩
def rbS : Nat → Bs
  | 0 => ⟨[], []⟩
  | k + 1 => rbK is cls ids L (rbS k) k
variable {is cls ids L}
theorem rbS_len : ∀ k, (rbS is cls ids L k).ks.length ≤ k ∧ (rbS is cls ids L k).rows.length ≤ k
  | 0 => ⟨Nat.le_refl _, Nat.le_refl _⟩
  | k + 1 => by
    obtain ⟨a, b⟩ := rbS_len k
    simp only [rbS, rbK]
    split
    · exact ⟨by omega, by omega⟩
    · simp; omega
theorem rbS_hd : ∀ k, (rbS is cls ids L k).ks = (hdL is cls k).map cls ∧ (rbS is cls ids L k).rows = (hdL is cls k).map (fun i => gpF is cls ids i L) ∧ ∀ j, j < k → is j = false → cls j ∈ (rbS is cls ids L k).ks
  | 0 => ⟨rfl, rfl, fun j h => by omega⟩
  | k + 1 => by
    obtain ⟨h1, h2, h3⟩ := rbS_hd k
    have hs : rbS is cls ids L (k + 1) = rbK is cls ids L (rbS is cls ids L k) k := rfl
    rw [hs, hdL_succ]
    generalize rbS is cls ids L k = s at *
    unfold rbK
    by_cases hc : is k = true ∨ cls k ∈ s.ks
    · have hd : hdB is cls k = false := by
        rcases hc with hc | hc
        · cases h : hdB is cls k with
          | false => rfl
          | true => exact absurd ((hdB_iff.1 h).1.symm.trans hc) (by simp)
        · exact hd_no (h1 ▸ hc)
      rw [if_pos hc, hd, if_neg (by simp), List.append_nil]
      refine ⟨h1, h2, fun j hj hf => ?_⟩
      rcases Nat.lt_succ_iff_lt_or_eq.1 hj with hj | rfl
      · exact h3 j hj hf
      · rcases hc with hc | hc
        · rw [hf] at hc; cases hc
        · exact hc
    · have hd : hdB is cls k = true := hdB_iff.2 ⟨by cases h : is k <;> simp_all, fun j hj hf e => hc (.inr (e ▸ h3 j hj hf))⟩
      rw [if_neg hc, hd, if_pos rfl]
      refine ⟨by simp [h1], by simp [h2], fun j hj hf => ?_⟩
      simp only [List.mem_append, List.mem_singleton]
      rcases Nat.lt_succ_iff_lt_or_eq.1 hj with hj | rfl
      · exact .inl (h3 j hj hf)
      · exact .inr rfl
end
theorem rb_bl {is is' : Nat → Bool} {cls cls' : Nat → Nat} {ids : List Int} {L : Nat} (hi : ∀ k, k < L → is k = is' k) (hc : ∀ j k, j < L → k < L → is k = false → is j = false → (cls j = cls k ↔ cls' j = cls' k)) : (rbS is cls ids L L).rows = (blS is' cls' ids L).rows := by
  rw [(rbS_hd L).2.1, (blS_hd L).2]
  have hh : ∀ k, k < L → hdB is cls k = hdB is' cls' k := fun k hk => by
    rw [Bool.eq_iff_iff, hdB_iff, hdB_iff]
    constructor
    · rintro ⟨a, b⟩
      exact ⟨(hi k hk) ▸ a, fun j hj hf e => b j hj ((hi j (by omega)).trans hf) ((hc j k (by omega) hk a ((hi j (by omega)).trans hf)).2 e)⟩
    · rintro ⟨a, b⟩
      exact ⟨(hi k hk).trans a, fun j hj hf e => b j hj ((hi j (by omega)).symm.trans hf) ((hc j k (by omega) hk ((hi k hk).trans a) hf).1 e)⟩
  have hl : hdL is cls L = hdL is' cls' L := by
    unfold hdL
    exact List.filter_congr fun k hk => hh k (List.mem_range.1 hk)
  rw [hl]
  refine List.map_congr_left fun i hi' => ?_
  obtain ⟨m1, m2⟩ := hdL_mem.1 hi'
  rw [← gpF_all m2]
  unfold gpF
  congr 1
  refine List.filter_congr fun j hj => ?_
  rw [List.mem_range] at hj
  rw [← hi j hj]
  cases hf : is j with
  | true => simp
  | false =>
    have := hc j i hj m1 ((hi i m1).trans (hdB_iff.1 m2).1) hf
    simp [this]
end Go.Proofs.Ytgldpbghbkoolaa

