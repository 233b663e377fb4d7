/-
  Lemmas for the proof: no statement of its own.
-/
import Derived.Test.YtddhinbiahcjlaaWalkD
import Derived.Test.YtddhinbiahcjlaaIterA
import Derived.Test.YtddhinbiahcjlaaCutA
import Derived.Lib.SlicesCompact
import Derived.Test.YtddhinbiahcjlaaAlD
set_option linter.unusedVariables false
set_option linter.unusedSimpArgs false
-- P p_27s.txt
open Go Go.AL Go.RowKit
namespace Go.Proofs.Ytddhinbiahcjlaa
set_option maxRecDepth 20000
/-! ### sorted, without repetitions (as in chapter 14) -/
theorem srt_le (o : List Int) : (srt o).Pairwise (· ≤ ·) := by
  have h1 : (srt o).Pairwise (fun x y => decide (x ≤ y) = true) := List.pairwise_mergeSort (by simp; omega) (by simp; omega) o
  exact h1.imp fun h => by simpa using h
theorem arr_get (z : List Int) (i : Nat) (h : i < z.length) : z.toArray[i]! = z[i] := by simp [h]
theorem compact_pw {z : List Int} (h : z.Pairwise (· ≤ ·)) : (Lib.compact z).Pairwise (· < ·) := by
  unfold Lib.compact Lib.compactUpTo
  rw [List.pairwise_map]
  refine List.Pairwise.imp_of_mem ?_ (List.pairwise_lt_range.filter _)
  intro i j hi hj hij
  simp only [List.mem_filter, List.mem_range, Lib.keeps, decide_eq_true_eq] at hi hj
  have hj1 : j < z.length := hj.1
  have hk := hj.2.resolve_left (by omega)
  rw [arr_get z i hi.1, arr_get z j hj1]
  rw [arr_get z j hj1, arr_get z (j - 1) (by omega)] at hk
  have h1 := List.pairwise_iff_getElem.1 h (j - 1) j (by omega) hj.1 (by omega)
  rcases Nat.lt_or_ge i (j - 1) with h' | h'
  · have h2 := List.pairwise_iff_getElem.1 h i (j - 1) hi.1 (by omega) h'
    omega
  · have : i = j - 1 := by omega
    subst this
    omega
theorem compact_mem {z : List Int} {x : Int} : x ∈ Lib.compact z ↔ x ∈ z := by
  unfold Lib.compact Lib.compactUpTo
  simp only [List.mem_map, List.mem_filter, List.mem_range, Lib.keeps, decide_eq_true_eq]
  constructor
  · rintro ⟨i, hi, rfl⟩
    rw [arr_get z i hi.1]
    exact List.getElem_mem _
  · intro hx
    have key : ∀ k, k < z.length → ∀ (_ : z[k]? = some x), ∃ i, (i < z.length ∧ (i = 0 ∨ z.toArray[i]! ≠ z.toArray[i - 1]!)) ∧ z.toArray[i]! = x := by
      intro k
      induction k with
      | zero =>
        intro h0 e
        refine ⟨0, ⟨h0, .inl rfl⟩, ?_⟩
        rw [arr_get z 0 h0]
        rw [List.getElem?_eq_getElem h0] at e
        simpa using e
      | succ k ih =>
        intro hk e
        have e' : z[k + 1] = x := by rw [List.getElem?_eq_getElem hk] at e; simpa using e
        by_cases hp : z[k] = x
        · exact ih (by omega) (by rw [List.getElem?_eq_getElem (by omega), hp])
        · refine ⟨k + 1, ⟨hk, .inr ?_⟩, ?_⟩
          · rw [arr_get z (k + 1) hk, arr_get z (k + 1 - 1) (by omega)]
            simp only [Nat.add_sub_cancel]
            rw [e']; exact fun h => hp h.symm
          · rw [arr_get z (k + 1) hk]; exact e'
    obtain ⟨k, hk, e⟩ := List.getElem_of_mem hx
    exact key k hk (by rw [List.getElem?_eq_getElem hk, e])
theorem compact_len (l : List Int) : (Lib.compact l).length ≤ l.length := by
  unfold Lib.compact Lib.compactUpTo
  rw [List.length_map]
  exact Nat.le_trans (List.length_filter_le _ _) (by simp)
/-- the numbers that occur, ascending -/
def cs (l : List Int) : List Int := Lib.compact (srt l)
theorem cs_pw (l : List Int) : (cs l).Pairwise (· < ·) := compact_pw (srt_le _)
theorem cs_mem {l : List Int} {x : Int} : x ∈ cs l ↔ x ∈ l := by unfold cs; rw [compact_mem, (srt_perm _).mem_iff]
theorem cs_len (l : List Int) : (cs l).length ≤ l.length := by
  have := compact_len (srt l)
  rw [srt_len] at this; exact this
theorem r15 (id : Nat) (l : List Int) (hl : l.length ≤ 1000000) : FnW Try.prog 15 [.own id] [(id, .arr 3 1 (iRow l))] [] [(id, .arr 3 1 (iRow (srt l)))] [id] := by
  refine FnW_inplace id (by kernel_rfl) (srt_len l) (fun h x hx => h x ((srt_perm l).mem_iff.1 hx)) (fun g o cap w hH hcap hm hg => ?_) (fun h w => Try.slices_Sort_int_none none 0 w)
  refine (Try.slices_Sort_int g o cap l w hH hg (by omega)).mono ?_
  rintro E w' ⟨rfl, n, os, rfl⟩
  exact ⟨rfl, n, os, rfl⟩
theorem r16 (id : Nat) (l : List Int) (hl : l.length ≤ 1000000) : FnW Try.prog 16 [.own id] [(id, .arr 3 1 (iRow l))] [.own 3 1 (iRow (Lib.compact l))] [] [] := by
  refine FnW_cut id (by kernel_rfl) (fun h x hx => h x (compact_mem.1 hx)) (fun g o cap w vs hH hcap hm hg hv _ => ?_) (fun h w vs hv _ => ?_)
  · obtain rfl : vs = [] := List.eq_nil_of_length_eq_zero (by simpa using hv)
    refine (Try.slices_Compact_int g o cap l w hH (by omega) hcap).mono ?_
    rintro E w' ⟨rfl, q, rfl⟩
    have := compact_len l
    exact ⟨rfl, Lib.compact l ++ List.replicate (l.length - (Lib.compact l).length) 0, q, #[], by simp; omega, ⟨_, rfl⟩, by simp⟩
  · obtain rfl : vs = [] := List.eq_nil_of_length_eq_zero (by simpa using hv)
    subst h
    refine ⟨rfl, (Try.slices_Compact_int_empty none 0 w).mono ?_⟩
    rintro E w' ⟨rfl, rfl⟩
    exact ⟨rfl, rfl⟩
end Go.Proofs.Ytddhinbiahcjlaa

-- P p_27s.txt
open Go Go.AL Go.RowKit
namespace Go.Proofs.Ytddhinbiahcjlaa
set_option maxRecDepth 20000
/-! ### the table of a list of coins -/
def rowsN (sd : Int) (l : List Cn) : List Int := cs (l.map (rowC sd))
def colsN (sd : Int) (l : List Cn) : List Int := cs (l.map (colC sd))
def plc (L : List Int) (x : Int) : Nat := L.idxOf x
theorem plc_lt {L : List Int} {x : Int} (h : x ∈ L) : plc L x < L.length ∧ nth L (plc L x) = x := by
  have h1 := List.idxOf_lt_length_iff.2 h
  exact ⟨h1, by unfold plc; rw [nth_eq L _ h1]; exact List.getElem_idxOf h1⟩
/-- one more, if it is not there yet -/
def addU (u : List Int) (x : Int) : List Int := if x ∈ u then u else u ++ [x]
theorem addU_mem {u : List Int} {x y : Int} : y ∈ addU u x ↔ y ∈ u ∨ y = x := by
  unfold addU
  split
  · rename_i h
    exact ⟨.inl, fun h' => by rcases h' with h' | rfl; exact h'; exact h⟩
  · simp
theorem addU_nd {u : List Int} {x : Int} (h : u.Nodup) : (addU u x).Nodup := by
  unfold addU
  split
  · exact h
  · rename_i hx
    rw [List.nodup_append]
    exact ⟨h, by simp, fun a ha b hb e => by simp at hb; subst hb; subst e; exact hx ha⟩
theorem addU_len (u : List Int) (x : Int) : (addU u x).length ≤ u.length + 1 := by
  unfold addU; split <;> simp
/-- the table after k coins -/
def tabC (R C : List Int) (sd : Int) (l : List Cn) : Nat → List (List Int)
  | 0 => R.map fun _ => []
  | k + 1 => (tabC R C sd l k).set (plc R (rowC sd (nth l k))) (addU ((tabC R C sd l k).getD (plc R (rowC sd (nth l k))) []) (plc C (colC sd (nth l k)) : Nat))
theorem tabC_len (R C : List Int) (sd : Int) (l : List Cn) : ∀ k, (tabC R C sd l k).length = R.length
  | 0 => by simp [tabC]
  | k + 1 => by simp [tabC, tabC_len R C sd l k]
theorem tabC_row (R C : List Int) (sd : Int) (l : List Cn) (h : Nat) : ∀ k, ((tabC R C sd l k).getD h []).Nodup ∧ ((tabC R C sd l k).getD h []).length ≤ k ∧
    ∀ x, x ∈ (tabC R C sd l k).getD h [] ↔ h < R.length ∧ ∃ j, j < k ∧ plc R (rowC sd (nth l j)) = h ∧ (plc C (colC sd (nth l j)) : Int) = x
  | 0 => by
    have e : (tabC R C sd l 0).getD h [] = [] := by
      simp only [tabC, List.getD, List.getElem?_map]
      cases R[h]? <;> rfl
    rw [e]; simp
  | k + 1 => by
    obtain ⟨a, b, c⟩ := tabC_row R C sd l h k
    have hl := tabC_len R C sd l k
    simp only [tabC]
    generalize tabC R C sd l k = T at *
    simp only [List.getD_eq_getElem?_getD, List.getElem?_set] at a b c ⊢
    by_cases e : plc R (rowC sd (nth l k)) = h
    · rw [if_pos e, e]
      by_cases hh : h < T.length
      · rw [if_pos hh]
        simp only [Option.getD_some]
        refine ⟨addU_nd a, Nat.le_trans (addU_len _ _) (by omega), fun x => ?_⟩
        rw [addU_mem, c]
        constructor
        · rintro (⟨h1, j, h2, h3⟩ | rfl)
          · exact ⟨h1, j, by omega, h3⟩
          · exact ⟨by omega, k, by omega, e, rfl⟩
        · rintro ⟨h1, j, h2, h3, h4⟩
          rcases Nat.lt_succ_iff_lt_or_eq.1 h2 with h2 | rfl
          · exact .inl ⟨h1, j, h2, h3, h4⟩
          · exact .inr h4.symm
      · rw [if_neg hh]
        refine ⟨by simp, by simp, fun x => ?_⟩
        simp; omega
    · rw [if_neg e]
      refine ⟨a, by omega, fun x => ?_⟩
      rw [c]
      constructor
      · rintro ⟨h1, j, h2, h3⟩; exact ⟨h1, j, by omega, h3⟩
      · rintro ⟨h1, j, h2, h3, h4⟩
        rcases Nat.lt_succ_iff_lt_or_eq.1 h2 with h2 | rfl
        · exact ⟨h1, j, h2, h3, h4⟩
        · exact absurd h3 e
end Go.Proofs.Ytddhinbiahcjlaa

-- P p_27s.txt
open Go Go.AL Go.RowKit
namespace Go.Proofs.Ytddhinbiahcjlaa
set_option maxRecDepth 20000
def bfr (l : List Int) (x : Int) : Nat := (l.takeWhile fun y => decide (y < x)).length
def insA (l : List Int) (x : Int) : List Int := if nth l (bfr l x) = x ∧ bfr l x < l.length then l else l.take (bfr l x) ++ x :: l.drop (bfr l x)
theorem bfr_step {l : List Int} {x : Int} {i : Nat} (hi : i < l.length) (h : nth l i < x) (hb : i ≤ bfr l x) : i + 1 ≤ bfr l x := by
  unfold bfr at *
  rcases Nat.lt_or_ge i (l.takeWhile fun y => decide (y < x)).length with h1 | h1
  · exact h1
  · exfalso
    have e : i = (l.takeWhile fun y => decide (y < x)).length := by omega
    have h2 := List.takeWhile_append_dropWhile (p := fun y => decide (y < x)) (l := l)
    have h3 : (l.dropWhile fun y => decide (y < x)) = l.drop i := by
      have h6 : (l.takeWhile (fun y => decide (y < x)) ++ l.dropWhile fun y => decide (y < x)).drop i = l.drop i := by rw [h2]
      rw [← h6, e, List.drop_left]
    have h4 : (l.dropWhile fun y => decide (y < x)).head? = some (nth l i) := by
      rw [h3, List.head?_drop, List.getElem?_eq_getElem hi, nth_eq l i hi]
    have h5 := List.head?_dropWhile_not (fun y => decide (y < x)) l
    rw [h4] at h5
    simp at h5; omega
theorem bfr_le (l : List Int) (x : Int) : bfr l x ≤ l.length := by
  unfold bfr; exact (List.takeWhile_prefix _).length_le
theorem bfr_at {l : List Int} {x : Int} (h : bfr l x < l.length) : x ≤ nth l (bfr l x) := by
  rcases Int.lt_or_le (nth l (bfr l x)) x with h1 | h1
  · have := bfr_step h h1 (Nat.le_refl _); omega
  · exact h1
theorem bfr_lt {l : List Int} {x : Int} {i : Nat} (h : i < bfr l x) : nth l i < x := by
  have h0 := bfr_le l x
  unfold bfr at h h0
  have h2 := List.takeWhile_append_dropWhile (p := fun y => decide (y < x)) (l := l)
  have h1 : nth l i = (l.takeWhile fun y => decide (y < x))[i] := by
    rw [nth_eq l i (by omega)]
    have : l[i]? = (l.takeWhile fun y => decide (y < x))[i]? := by
      conv => lhs; rw [← h2]
      rw [List.getElem?_append_left h]
    rw [List.getElem?_eq_getElem (by omega), List.getElem?_eq_getElem h] at this
    simpa using this
  have h3 := List.all_takeWhile (p := fun y => decide (y < x)) (l := l)
  rw [List.all_eq_true] at h3
  have := h3 _ (List.getElem_mem h)
  rw [h1]; simpa using this
theorem bfr_end {l : List Int} {x : Int} {i : Nat} (hi : i ≤ l.length) (hb : i ≤ bfr l x) (h : i = l.length ∨ ¬ nth l i < x) : i = bfr l x := by
  rcases Nat.lt_or_ge i (bfr l x) with h1 | h1
  · have h2 := bfr_le l x
    rcases h with h | h
    · omega
    · exact absurd (bfr_lt h1) h
  · omega
theorem pwI_ext {a b : List Int} (ha : a.Pairwise (· < ·)) (hb : b.Pairwise (· < ·)) (h : ∀ x, x ∈ a ↔ x ∈ b) : a = b :=
  List.Perm.eq_of_pairwise (fun x y _ _ h1 h2 => by omega) ha hb ((List.perm_ext_iff_of_nodup (ha.imp fun h => by omega) (hb.imp fun h => by omega)).2 h)
theorem insA_mem {l : List Int} {x y : Int} : y ∈ insA l x ↔ y ∈ l ∨ y = x := by
  unfold insA
  split
  · rename_i h
    refine ⟨.inl, fun h' => ?_⟩
    rcases h' with h' | h'
    · exact h'
    · rw [h', ← h.1]; exact nth_mem l _ h.2
  · have h2 := List.take_append_drop (bfr l x) l
    rw [List.mem_append, List.mem_cons]
    conv => rhs; rw [← h2, List.mem_append]
    constructor
    · rintro (h | h | h)
      · exact .inl (.inl h)
      · exact .inr h
      · exact .inl (.inr h)
    · rintro ((h | h) | h)
      · exact .inl h
      · exact .inr (.inr h)
      · exact .inr (.inl h)
theorem insA_pw {l : List Int} (h : l.Pairwise (· < ·)) (x : Int) : (insA l x).Pairwise (· < ·) := by
  unfold insA
  split
  · exact h
  · rename_i hn
    have hl := bfr_le l x
    rw [List.pairwise_append]
    refine ⟨h.sublist (List.take_sublist _ _), ?_, fun a ha b hb => ?_⟩
    · rw [List.pairwise_cons]
      refine ⟨fun b hb => ?_, h.sublist (List.drop_sublist _ _)⟩
      obtain ⟨j, hj, rfl⟩ := List.getElem_of_mem hb
      rw [List.getElem_drop]
      simp at hj
      have h1 := bfr_at (l := l) (x := x) (by omega)
      have h3 : nth l (bfr l x) ≠ x := fun e => hn ⟨e, by omega⟩
      rw [nth_eq l _ (by omega)] at h1 h3
      rcases Nat.eq_zero_or_pos j with rfl | hj0
      · simp only [Nat.add_zero]; omega
      · have := List.pairwise_iff_getElem.1 h (bfr l x) (bfr l x + j) (by omega) (by omega) (by omega)
        omega
    · obtain ⟨i, hi, rfl⟩ := List.getElem_of_mem ha
      rw [List.getElem_take]
      simp at hi
      have h1 := bfr_lt (l := l) (x := x) (i := i) (by omega)
      rw [nth_eq l i (by omega)] at h1
      rcases List.mem_cons.1 hb with rfl | hb
      · exact h1
      · obtain ⟨j, hj, rfl⟩ := List.getElem_of_mem hb
        rw [List.getElem_drop]
        simp at hj
        exact List.pairwise_iff_getElem.1 h i (bfr l x + j) (by omega) (by omega) (by omega)
theorem insA_len (l : List Int) (x : Int) : (insA l x).length ≤ l.length + 1 := by
  unfold insA
  split
  · omega
  · simp only [List.length_append, List.length_take, List.length_cons, List.length_drop]; omega
/-- the reference's lists of numbers -/
def inss (f : Nat → Int) : Nat → List Int
  | 0 => []
  | i + 1 => insA (inss f i) (f i)
theorem inss_pw (f : Nat → Int) : ∀ n, (inss f n).Pairwise (· < ·)
  | 0 => .nil
  | i + 1 => insA_pw (inss_pw f i) _
theorem inss_mem (f : Nat → Int) (x : Int) : ∀ n, x ∈ inss f n ↔ ∃ j, j < n ∧ f j = x
  | 0 => by simp [inss]
  | i + 1 => by
    simp only [inss]
    rw [insA_mem, inss_mem f x i]
    constructor
    · rintro (⟨j, h1, h2⟩ | rfl)
      · exact ⟨j, by omega, h2⟩
      · exact ⟨i, by omega, rfl⟩
    · rintro ⟨j, h1, h2⟩
      rcases Nat.lt_succ_iff_lt_or_eq.1 h1 with h1 | rfl
      · exact .inl ⟨j, h1, h2⟩
      · exact .inr h2.symm
theorem inss_len (f : Nat → Int) : ∀ n, (inss f n).length ≤ n
  | 0 => by simp [inss]
  | i + 1 => by
    have h1 := inss_len f i
    have h2 := insA_len (inss f i) (f i)
    simp only [inss]; omega
theorem mem_nth {l : List Int} {x : Int} : x ∈ l ↔ ∃ j, j < l.length ∧ nth l j = x := by
  constructor
  · intro h
    obtain ⟨j, hj, e⟩ := List.getElem_of_mem h
    exact ⟨j, hj, by rw [nth_eq l j hj, e]⟩
  · rintro ⟨j, hj, rfl⟩; exact nth_mem l j hj
theorem nth_mapC {α : Type} [Inhabited α] (f : α → Int) (l : List α) (i : Nat) (h : i < l.length) : nth (l.map f) i = f (nth l i) := by
  rw [nth_eq _ i (by simpa using h), List.getElem_map, nth_eq l i h]
theorem inss_cs (f : Cn → Int) (l : List Cn) : inss (fun i => f (nth l i)) l.length = cs (l.map f) := by
  refine pwI_ext (inss_pw _ _) (cs_pw _) fun x => ?_
  rw [inss_mem, cs_mem, mem_nth]
  simp only [List.length_map]
  constructor
  · rintro ⟨j, h, e⟩; exact ⟨j, h, by rw [nth_mapC f l j h, e]⟩
  · rintro ⟨j, h, e⟩; exact ⟨j, h, by rw [← e, nth_mapC f l j h]⟩
/-- the reference's row: for each column k, once for each coin that hits -/
def rowJ (p : Nat → Bool) (x : Int) (row : List Int) : Nat → List Int
  | 0 => row
  | j + 1 => if p j then insA (rowJ p x row j) x else rowJ p x row j
def rowK (hit : Nat → Nat → Bool) (n : Nat) : Nat → List Int
  | 0 => []
  | k + 1 => rowJ (hit k) k (rowK hit n k) n
theorem rowJ_pw (p : Nat → Bool) (x : Int) {row : List Int} (h : row.Pairwise (· < ·)) : ∀ j, (rowJ p x row j).Pairwise (· < ·)
  | 0 => h
  | j + 1 => by
    simp only [rowJ]
    split
    · exact insA_pw (rowJ_pw p x h j) x
    · exact rowJ_pw p x h j
theorem rowJ_mem (p : Nat → Bool) (x y : Int) (row : List Int) : ∀ j, y ∈ rowJ p x row j ↔ y ∈ row ∨ (y = x ∧ ∃ i, i < j ∧ p i = true)
  | 0 => by simp [rowJ]
  | j + 1 => by
    have ih := rowJ_mem p x y row j
    simp only [rowJ]
    constructor
    · split
      · rename_i hp
        rw [insA_mem, ih]
        rintro ((h | ⟨h, i, h1, h2⟩) | h)
        · exact .inl h
        · exact .inr ⟨h, i, by omega, h2⟩
        · exact .inr ⟨h, j, by omega, hp⟩
      · rw [ih]
        rintro (h | ⟨h, i, h1, h2⟩)
        · exact .inl h
        · exact .inr ⟨h, i, by omega, h2⟩
    · rintro (h | ⟨h, i, h1, h2⟩)
      · split
        · rw [insA_mem, ih]; exact .inl (.inl h)
        · rw [ih]; exact .inl h
      · rcases Nat.lt_succ_iff_lt_or_eq.1 h1 with h1 | rfl
        · split
          · rw [insA_mem, ih]; exact .inl (.inr ⟨h, i, h1, h2⟩)
          · rw [ih]; exact .inr ⟨h, i, h1, h2⟩
        · rw [if_pos h2, insA_mem]; exact .inr h
theorem rowJ_len (p : Nat → Bool) (x : Int) (row : List Int) : ∀ j, (rowJ p x row j).length ≤ row.length + j
  | 0 => by simp [rowJ]
  | j + 1 => by
    have h1 := rowJ_len p x row j
    have h2 := insA_len (rowJ p x row j) x
    simp only [rowJ]
    split <;> omega
theorem rowK_pw (hit : Nat → Nat → Bool) (n : Nat) : ∀ k, (rowK hit n k).Pairwise (· < ·)
  | 0 => .nil
  | k + 1 => rowJ_pw _ _ (rowK_pw hit n k) n
theorem rowK_mem (hit : Nat → Nat → Bool) (n : Nat) (y : Int) : ∀ k, y ∈ rowK hit n k ↔ ∃ c, c < k ∧ y = (c : Nat) ∧ ∃ i, i < n ∧ hit c i = true
  | 0 => by simp [rowK]
  | k + 1 => by
    simp only [rowK]
    rw [rowJ_mem, rowK_mem hit n y k]
    constructor
    · rintro (⟨c, h1, h2⟩ | ⟨h1, h2⟩)
      · exact ⟨c, by omega, h2⟩
      · exact ⟨k, by omega, h1, h2⟩
    · rintro ⟨c, h1, h2⟩
      rcases Nat.lt_succ_iff_lt_or_eq.1 h1 with h1 | rfl
      · exact .inl ⟨c, h1, h2⟩
      · exact .inr h2
theorem rowK_len (hit : Nat → Nat → Bool) (n : Nat) : ∀ k, (rowK hit n k).length ≤ k * n
  | 0 => by simp [rowK]
  | k + 1 => by
    have h1 := rowK_len hit n k
    have h2 := rowJ_len (hit k) k (rowK hit n k) n
    simp only [rowK]
    rw [Nat.succ_mul]; omega
/-- does coin j lie in row h and column c? -/
def hitC (sd : Int) (l : List Cn) (h c j : Nat) : Bool := decide (rowC sd (nth l j) = nth (rowsN sd l) h) && decide (colC sd (nth l j) = nth (colsN sd l) c)
/-- row h of the table -/
def rowT (sd : Int) (l : List Cn) (h : Nat) : List Int := rowK (hitC sd l h) l.length (colsN sd l).length
theorem srt_pwlt {l : List Int} (h : l.Nodup) : (srt l).Pairwise (· < ·) := by
  have h1 := srt_le l
  have h2 : (srt l).Nodup := (srt_perm l).nodup_iff.2 h
  have h3 := h1.and h2
  exact h3.imp fun ⟨a, b⟩ => by omega
theorem cs_nth {l : List Int} {i j : Nat} (hi : i < (cs l).length) (hj : j < (cs l).length) (h : nth (cs l) i = nth (cs l) j) : i = j := by
  have hp := List.pairwise_iff_getElem.1 (cs_pw l)
  rw [nth_eq _ i hi, nth_eq _ j hj] at h
  rcases Nat.lt_trichotomy i j with h1 | h1 | h1
  · have := hp i j hi hj h1; omega
  · exact h1
  · have := hp j i hj hi h1; omega
theorem cs_lt (l : List Int) (i j : Nat) (h : i < j) (hj : j < (cs l).length) : nth (cs l) i < nth (cs l) j := by
  have hp := List.pairwise_iff_getElem.1 (cs_pw l)
  rw [nth_eq _ i (by omega), nth_eq _ j hj]
  exact hp i j (by omega) hj h
theorem row_in (sd : Int) (l : List Cn) {j : Nat} (h : j < l.length) : rowC sd (nth l j) ∈ rowsN sd l := cs_mem.2 (List.mem_map_of_mem (nth_mem l j h))
theorem col_in (sd : Int) (l : List Cn) {j : Nat} (h : j < l.length) : colC sd (nth l j) ∈ colsN sd l := cs_mem.2 (List.mem_map_of_mem (nth_mem l j h))
theorem table_row (sd : Int) (l : List Cn) (h : Nat) (hh : h < (rowsN sd l).length) : srt ((tabC (rowsN sd l) (colsN sd l) sd l l.length).getD h []) = rowT sd l h := by
  obtain ⟨a, b, c⟩ := tabC_row (rowsN sd l) (colsN sd l) sd l h l.length
  refine pwI_ext (srt_pwlt a) (rowK_pw _ _ _) fun x => ?_
  rw [(srt_perm _).mem_iff, c]
  unfold rowT
  rw [rowK_mem]
  constructor
  · rintro ⟨_, j, h1, h2, h3⟩
    obtain ⟨d1, d2⟩ := plc_lt (row_in sd l h1)
    obtain ⟨e1, e2⟩ := plc_lt (col_in sd l h1)
    refine ⟨_, e1, h3.symm, j, h1, ?_⟩
    unfold hitC
    rw [h2] at d2
    simp [d2, e2]
  · rintro ⟨k, h1, rfl, j, h2, h3⟩
    obtain ⟨d1, d2⟩ := plc_lt (row_in sd l h2)
    obtain ⟨e1, e2⟩ := plc_lt (col_in sd l h2)
    unfold hitC at h3
    simp only [Bool.and_eq_true, decide_eq_true_eq] at h3
    refine ⟨hh, j, h2, ?_, ?_⟩
    · exact cs_nth d1 hh (d2.trans h3.1)
    · have := cs_nth e1 h1 (e2.trans h3.2)
      rw [this]
/-- the table -/
def tabT (sd : Int) (l : List Cn) : List (List Int) := (List.range (rowsN sd l).length).map (rowT sd l)
theorem tabT_len (sd : Int) (l : List Cn) : (tabT sd l).length = (rowsN sd l).length := by simp [tabT]
theorem tabT_nth (sd : Int) (l : List Cn) (h : Nat) (hh : h < (rowsN sd l).length) : nth (tabT sd l) h = rowT sd l h := by
  rw [nth_eq _ h (by rw [tabT_len]; exact hh)]
  simp [tabT]
theorem tabT_valid (sd : Int) (l : List Cn) (h1 : (rowsN sd l).length ≤ 16) (h2 : (colsN sd l).length ≤ 7) : validT (colsN sd l).length (tabT sd l) = true := by
  unfold validT
  refine decide_eq_true ⟨by omega, by omega, by rw [tabT_len]; exact h1, fun i hi => ?_⟩
  rw [tabT_len] at hi
  rw [tabT_nth sd l i hi]
  unfold asc
  refine decide_eq_true fun k hk => ?_
  have hm := nth_mem _ k hk
  unfold rowT at hm hk
  rw [rowK_mem] at hm
  obtain ⟨c, h3, h4, -⟩ := hm
  have hp := List.pairwise_iff_getElem.1 (rowK_pw (hitC sd l i) l.length (colsN sd l).length)
  unfold rowT Asc
  refine ⟨by omega, by omega, fun h0 => ?_⟩
  have := hp (k - 1) k (by omega) hk (by omega)
  rw [nth_eq _ _ hk, nth_eq _ _ (by omega)]
  exact this
end Go.Proofs.Ytddhinbiahcjlaa

-- P p_27s.txt
open Go Go.AL Go.RowKit
namespace Go.Proofs.Ytddhinbiahcjlaa
set_option maxRecDepth 20000
/- coinage/consecutive.Of -/
abbrev c5_1 : AC := .reg [⟨(some 4), .mv (.k (.I 0)), none⟩,
  ⟨(some 5), .mv (.k (.c .nil)), none⟩,
  ⟨(some 6), .mv (.k (.I 0)), none⟩] false
abbrev c5_2 : AC := .reg [⟨(some 25), .mv (.t 0), none⟩,
  ⟨(some 26), .call 13 [(.t 25)], none⟩,
  ⟨(some 7), .mv (.t 26), none⟩] false
abbrev c5_3 : AC := .reg [⟨(some 27), .mv (.t 7), none⟩,
  ⟨(some 28), .bin .neq (.t 27) (.k (.I 0)), none⟩] false
abbrev c5_4 : AC := .reg [⟨(some 29), .mv (.t 7), none⟩,
  ⟨(some 4), .mv (.k (.I 0)), none⟩,
  ⟨(some 5), .mv (.k (.c .nil)), none⟩,
  ⟨(some 6), .mv (.t 29), none⟩] false
abbrev c5_5 : AC := .seq c5_4 .ret
abbrev c5_6 : AC := .cond (.t 28) c5_5 .skip
abbrev c5_7 : AC := .seq c5_3 c5_6
abbrev c5_8 : AC := .seq c5_2 c5_7
abbrev c5_9 : AC := .reg [⟨(some 30), .mv (.t 1), none⟩,
  ⟨(some 31), .bin .neq (.t 30) (.k (.I 0)), none⟩,
  ⟨(some 32), .mv (.t 31), none⟩,
  ⟨(some 33), .mv (.t 1), (some (32, true))⟩,
  ⟨(some 34), .bin .neq (.t 33) (.k (.I 1)), (some (32, true))⟩,
  ⟨(some 35), .pick (.t 32) (.t 34) (.k (.B false)), none⟩] false
abbrev c5_10 : AC := .reg [⟨(some 4), .mv (.k (.I 0)), none⟩,
  ⟨(some 5), .mv (.k (.c .nil)), none⟩,
  ⟨(some 6), .mv (.k (.I 2)), none⟩] false
abbrev c5_11 : AC := .seq c5_10 .ret
abbrev c5_12 : AC := .cond (.t 35) c5_11 .skip
abbrev c5_13 : AC := .seq c5_9 c5_12
abbrev c5_14 : AC := .reg [⟨(some 8), .mv (.k (.c .nil)), none⟩,
  ⟨(some 9), .mv (.k (.c .nil)), none⟩] false
abbrev c5_15 : AC := .reg [⟨(some 36), .mv (.t 0), none⟩,
  ⟨(some 37), .len (.t 36), none⟩,
  ⟨(some 38), .mv (.k (.I 0)), none⟩] false
abbrev c5_16 : AC := .reg [⟨(some 39), .bin .lss (.t 38) (.t 37), none⟩] false
abbrev c5_17 : AC := .cond (.t 39) .skip (.exit 0)
abbrev c5_18 : AC := .reg [⟨(some 40), .iad 7 (.t 36) (.t 38), none⟩,
  ⟨(some 41), .ld (some 7) (.t 40), none⟩,
  ⟨(some 11), .alloc 40 [(.I 0), (.I 0), (.I 0), (.I 0), (.I 0), (.I 0), (.I 0)], none⟩,
  ⟨none, .st (some 7) (.t 11) (.t 41), none⟩] false
abbrev c5_19 : AC := .reg [⟨(some 43), .ld (some 7) (.t 11), none⟩,
  ⟨(some 44), .mv (.t 1), none⟩,
  ⟨(some 45), .call 14 [(.t 43), (.t 44)], none⟩,
  ⟨(some 42), .mv (.t 45), none⟩,
  ⟨(some 46), .ext (.t 42) 0, none⟩,
  ⟨(some 47), .ext (.t 42) 1, none⟩,
  ⟨(some 12), .mv (.t 46), none⟩,
  ⟨(some 13), .mv (.t 47), none⟩] false
abbrev c5_20 : AC := .reg [⟨(some 48), .mv (.t 8), none⟩,
  ⟨(some 49), .mv (.t 12), none⟩,
  ⟨(some 50), .bslice 3 1 [(.t 49)], none⟩,
  ⟨(some 51), .app 3 1 8 (.t 48) (.t 50), none⟩,
  ⟨(some 52), .mv (.t 9), none⟩,
  ⟨(some 53), .mv (.t 13), none⟩,
  ⟨(some 54), .bslice 3 1 [(.t 53)], none⟩,
  ⟨(some 55), .app 3 1 8 (.t 52) (.t 54), none⟩,
  ⟨(some 8), .mv (.t 51), none⟩,
  ⟨(some 9), .mv (.t 55), none⟩] false
abbrev c5_21 : AC := .seq c5_19 c5_20
abbrev c5_22 : AC := .seq c5_18 c5_21
abbrev c5_23 : AC := .block 1 c5_22
abbrev c5_24 : AC := .reg [⟨(some 56), .bin .add (.t 38) (.k (.I 1)), none⟩,
  ⟨(some 38), .mv (.t 56), none⟩] false
abbrev c5_25 : AC := .seq c5_23 c5_24
abbrev c5_26 : AC := .seq c5_17 c5_25
abbrev c5_27 : AC := .seq c5_16 c5_26
abbrev c5_28 : AC := .loop c5_27
abbrev c5_29 : AC := .block 0 c5_28
abbrev c5_30 : AC := .seq c5_15 c5_29
abbrev c5_31 : AC := .reg [⟨(some 57), .mv (.t 8), none⟩,
  ⟨(some 58), .call 15 [(.t 57)], none⟩] false
abbrev c5_32 : AC := .reg [⟨(some 59), .mv (.t 9), none⟩,
  ⟨(some 60), .call 15 [(.t 59)], none⟩] false
abbrev c5_33 : AC := .reg [⟨(some 61), .mv (.t 8), none⟩,
  ⟨(some 62), .call 16 [(.t 61)], none⟩,
  ⟨(some 63), .mv (.t 9), none⟩,
  ⟨(some 64), .call 16 [(.t 63)], none⟩,
  ⟨(some 8), .mv (.t 62), none⟩,
  ⟨(some 9), .mv (.t 64), none⟩] false
abbrev c5_34 : AC := .reg [⟨(some 65), .mv (.t 9), none⟩,
  ⟨(some 66), .len (.t 65), none⟩,
  ⟨(some 67), .bin .gtr (.t 66) (.k (.I 7)), none⟩,
  ⟨(some 68), .mv (.t 67), none⟩,
  ⟨(some 69), .mv (.t 8), (some (68, false))⟩,
  ⟨(some 70), .len (.t 69), (some (68, false))⟩,
  ⟨(some 71), .bin .gtr (.t 70) (.k (.I 16)), (some (68, false))⟩,
  ⟨(some 72), .pick (.t 68) (.k (.B true)) (.t 71), none⟩] false
abbrev c5_35 : AC := .reg [⟨(some 4), .mv (.k (.I 0)), none⟩,
  ⟨(some 5), .mv (.k (.c .nil)), none⟩,
  ⟨(some 6), .mv (.k (.I 6)), none⟩] false
abbrev c5_36 : AC := .seq c5_35 .ret
abbrev c5_37 : AC := .cond (.t 72) c5_36 .skip
abbrev c5_38 : AC := .seq c5_34 c5_37
abbrev c5_39 : AC := .reg [⟨(some 73), .mv (.t 8), none⟩,
  ⟨(some 74), .len (.t 73), none⟩,
  ⟨(some 75), .mks 31 1 24 [.nil] (.t 74) (.t 74), none⟩,
  ⟨(some 14), .mv (.t 75), none⟩] false
abbrev c5_40 : AC := .reg [⟨(some 76), .mv (.t 0), none⟩,
  ⟨(some 77), .len (.t 76), none⟩,
  ⟨(some 78), .mv (.k (.I 0)), none⟩] false
abbrev c5_41 : AC := .reg [⟨(some 79), .bin .lss (.t 78) (.t 77), none⟩] false
abbrev c5_42 : AC := .cond (.t 79) .skip (.exit 2)
abbrev c5_43 : AC := .reg [⟨(some 80), .iad 7 (.t 76) (.t 78), none⟩,
  ⟨(some 81), .ld (some 7) (.t 80), none⟩,
  ⟨(some 16), .alloc 40 [(.I 0), (.I 0), (.I 0), (.I 0), (.I 0), (.I 0), (.I 0)], none⟩,
  ⟨none, .st (some 7) (.t 16) (.t 81), none⟩] false
abbrev c5_44 : AC := .reg [⟨(some 83), .ld (some 7) (.t 16), none⟩,
  ⟨(some 84), .mv (.t 1), none⟩,
  ⟨(some 85), .call 14 [(.t 83), (.t 84)], none⟩,
  ⟨(some 82), .mv (.t 85), none⟩,
  ⟨(some 86), .ext (.t 82) 0, none⟩,
  ⟨(some 87), .ext (.t 82) 1, none⟩,
  ⟨(some 17), .mv (.t 86), none⟩,
  ⟨(some 18), .mv (.t 87), none⟩] false
abbrev c5_45 : AC := .reg [⟨(some 89), .mv (.t 8), none⟩,
  ⟨(some 90), .mv (.t 17), none⟩,
  ⟨(some 91), .call 17 [(.t 89), (.t 90)], none⟩,
  ⟨(some 88), .mv (.t 91), none⟩,
  ⟨(some 92), .ext (.t 88) 0, none⟩,
  ⟨(some 93), .ext (.t 88) 1, none⟩,
  ⟨(some 19), .mv (.t 92), none⟩,
  ⟨(some 20), .mv (.t 93), none⟩] false
abbrev c5_46 : AC := .reg [⟨(some 95), .mv (.t 9), none⟩,
  ⟨(some 96), .mv (.t 18), none⟩,
  ⟨(some 97), .call 17 [(.t 95), (.t 96)], none⟩,
  ⟨(some 94), .mv (.t 97), none⟩,
  ⟨(some 98), .ext (.t 94) 0, none⟩,
  ⟨(some 99), .ext (.t 94) 1, none⟩,
  ⟨(some 21), .mv (.t 98), none⟩,
  ⟨(some 22), .mv (.t 99), none⟩] false
abbrev c5_47 : AC := .reg [⟨(some 100), .mv (.t 14), none⟩,
  ⟨(some 101), .mv (.t 19), none⟩,
  ⟨(some 102), .iad 1 (.t 100) (.t 101), none⟩,
  ⟨(some 103), .ld none (.t 102), none⟩,
  ⟨(some 104), .mv (.t 21), none⟩,
  ⟨(some 105), .call 18 [(.t 103), (.t 104)], none⟩,
  ⟨(some 106), .not (.t 105), none⟩] false
abbrev c5_48 : AC := .reg [⟨(some 107), .mv (.t 14), none⟩,
  ⟨(some 108), .mv (.t 19), none⟩,
  ⟨(some 109), .mv (.t 14), none⟩,
  ⟨(some 110), .mv (.t 19), none⟩,
  ⟨(some 111), .iad 1 (.t 109) (.t 110), none⟩,
  ⟨(some 112), .ld none (.t 111), none⟩,
  ⟨(some 113), .mv (.t 21), none⟩,
  ⟨(some 114), .bslice 3 1 [(.t 113)], none⟩,
  ⟨(some 115), .app 3 1 8 (.t 112) (.t 114), none⟩,
  ⟨(some 116), .iad 1 (.t 107) (.t 108), none⟩,
  ⟨none, .st none (.t 116) (.t 115), none⟩] false
abbrev c5_49 : AC := .cond (.t 106) c5_48 .skip
abbrev c5_50 : AC := .seq c5_47 c5_49
abbrev c5_51 : AC := .seq c5_46 c5_50
abbrev c5_52 : AC := .seq c5_45 c5_51
abbrev c5_53 : AC := .seq c5_44 c5_52
abbrev c5_54 : AC := .seq c5_43 c5_53
abbrev c5_55 : AC := .block 3 c5_54
abbrev c5_56 : AC := .reg [⟨(some 117), .bin .add (.t 78) (.k (.I 1)), none⟩,
  ⟨(some 78), .mv (.t 117), none⟩] false
abbrev c5_57 : AC := .seq c5_55 c5_56
abbrev c5_58 : AC := .seq c5_42 c5_57
abbrev c5_59 : AC := .seq c5_41 c5_58
abbrev c5_60 : AC := .loop c5_59
abbrev c5_61 : AC := .block 2 c5_60
abbrev c5_62 : AC := .seq c5_40 c5_61
abbrev c5_63 : AC := .reg [⟨(some 118), .mv (.t 14), none⟩,
  ⟨(some 119), .len (.t 118), none⟩,
  ⟨(some 120), .mv (.k (.I 0)), none⟩] false
abbrev c5_64 : AC := .reg [⟨(some 121), .bin .lss (.t 120) (.t 119), none⟩] false
abbrev c5_65 : AC := .cond (.t 121) .skip (.exit 4)
abbrev c5_66 : AC := .reg [⟨(some 122), .iad 1 (.t 118) (.t 120), none⟩,
  ⟨(some 123), .ld none (.t 122), none⟩,
  ⟨(some 24), .mv (.t 123), none⟩] false
abbrev c5_67 : AC := .reg [⟨(some 124), .mv (.t 24), none⟩,
  ⟨(some 125), .call 15 [(.t 124)], none⟩] false
abbrev c5_68 : AC := .seq c5_66 c5_67
abbrev c5_69 : AC := .block 5 c5_68
abbrev c5_70 : AC := .reg [⟨(some 126), .bin .add (.t 120) (.k (.I 1)), none⟩,
  ⟨(some 120), .mv (.t 126), none⟩] false
abbrev c5_71 : AC := .seq c5_69 c5_70
abbrev c5_72 : AC := .seq c5_65 c5_71
abbrev c5_73 : AC := .seq c5_64 c5_72
abbrev c5_74 : AC := .loop c5_73
abbrev c5_75 : AC := .block 4 c5_74
abbrev c5_76 : AC := .seq c5_63 c5_75
abbrev c5_77 : AC := .reg [⟨(some 127), .mv (.t 9), none⟩,
  ⟨(some 128), .len (.t 127), none⟩,
  ⟨(some 129), .mv (.t 14), none⟩,
  ⟨(some 4), .mv (.t 128), none⟩,
  ⟨(some 5), .mv (.t 129), none⟩,
  ⟨(some 6), .mv (.k (.I 0)), none⟩] false
abbrev c5_78 : AC := .seq c5_77 .ret
abbrev c5_79 : AC := .seq c5_76 c5_78
abbrev c5_80 : AC := .seq c5_62 c5_79
abbrev c5_81 : AC := .seq c5_39 c5_80
abbrev c5_82 : AC := .seq c5_38 c5_81
abbrev c5_83 : AC := .seq c5_33 c5_82
abbrev c5_84 : AC := .seq c5_32 c5_83
abbrev c5_85 : AC := .seq c5_31 c5_84
abbrev c5_86 : AC := .seq c5_30 c5_85
abbrev c5_87 : AC := .seq c5_14 c5_86
abbrev c5_88 : AC := .seq c5_13 c5_87
abbrev c5_89 : AC := .seq c5_8 c5_88
abbrev c5_90 : AC := .seq c5_1 c5_89
abbrev c5 : AC := c5_90
theorem code5 : fnCode Try.prog 5 = some (c5, [4, 5, 6], 130) := by kernel_rfl

abbrev rR (s : List (List Int)) : List (List (List CD)) := s.map fun r => r.map fun x => [CD.I x]
theorem rowsCD_rR (s : List (List Int)) : rowsCD 1 (rR s) = Tab s := by unfold rowsCD; rw [List.map_map]; rfl
theorem rR_get (T : List (List Int)) (h : Nat) : (rR T).getD h [] = iRow (T.getD h []) := by
  simp only [rR, iRow, List.getD, List.getElem?_map]
  cases T[h]? <;> rfl
theorem rR_set (T : List (List Int)) (h : Nat) (r : List Int) : (rR T).set h (iRow r) = rR (T.set h r) := by
  simp [rR, iRow, List.map_set]
theorem iRow_snoc (r : List Int) (x : Int) : iRow r ++ [[CD.I x]] = iRow (r ++ [x]) := by simp [iRow]
theorem set_same (T : List (List Int)) (h : Nat) : T.set h (T.getD h []) = T := by
  apply List.ext_getElem?
  intro j
  rw [List.getElem?_set]
  split
  · rename_i e
    subst e
    split
    · rename_i hh
      rw [List.getD_eq_getElem?_getD, List.getElem?_eq_getElem hh]; rfl
    · rename_i hh
      rw [List.getElem?_eq_none (by omega)]
  · rfl
/-- the first i rows sorted -/
def mixT (T : List (List Int)) (i : Nat) : List (List Int) := (T.take i).map srt ++ T.drop i
theorem mixT_len (T : List (List Int)) (i : Nat) : (mixT T i).length = T.length := by unfold mixT; simp; omega
theorem mixT_get (T : List (List Int)) (i : Nat) (h : i < T.length) : (mixT T i).getD i [] = T.getD i [] := by
  unfold mixT
  rw [List.getD_eq_getElem?_getD, List.getElem?_append_right (by simp; omega)]
  simp [List.getElem?_drop]
  rw [Nat.min_eq_left (by omega), Nat.sub_self, Nat.add_zero]
theorem mixT_set (T : List (List Int)) (i : Nat) (h : i < T.length) : (mixT T i).set i (srt (T.getD i [])) = mixT T (i + 1) := by
  have e : T.getD i [] = T[i] := by rw [List.getD_eq_getElem?_getD, List.getElem?_eq_getElem h]; rfl
  unfold mixT
  rw [List.set_append_right (h := by simp; omega), List.take_succ_eq_append_getElem h, List.map_append, List.drop_eq_getElem_cons h, e]
  simp [Nat.min_eq_left (Nat.le_of_lt h)]
  rw [List.drop_eq_getElem_cons h]; rfl
theorem mixT_all (sd : Int) (l : List Cn) (n : Nat) (hn : n = (rowsN sd l).length) : mixT (tabC (rowsN sd l) (colsN sd l) sd l l.length) n = tabT sd l := by
  have hl := tabC_len (rowsN sd l) (colsN sd l) sd l l.length
  unfold mixT
  rw [List.take_of_length_le (by omega), List.drop_of_length_le (by omega), List.append_nil]
  apply List.ext_getElem
  · simp [tabT, hl]
  · intro i h1 h2
    have hi : i < (rowsN sd l).length := by simpa [tabT] using h2
    have := table_row sd l i hi
    rw [List.getD_eq_getElem?_getD, List.getElem?_eq_getElem (by omega)] at this
    simp only [List.getElem_map, tabT, List.getElem_range]
    exact this
theorem tab0 (R C : List Int) (sd : Int) (l : List Cn) : rR (tabC R C sd l 0) = List.replicate R.length [] := by
  simp only [tabC, rR, List.map_map]
  exact List.map_eq_replicate_iff.2 (fun _ _ => rfl)
theorem take_map_snoc (f : Cn → Int) (l : List Cn) (i : Nat) (h : i < l.length) : iRow ((l.take (i + 1)).map f) = iRow ((l.take i).map f) ++ [[CD.I (f (nth l i))]] := by
  rw [List.take_succ_eq_append_getElem h, nth_eq l i h, List.map_append]
  unfold iRow
  rw [List.map_append]; rfl
theorem chk_len {l : List Cn} (h : chkC l = 0) : l.length ≤ 64 := by
  unfold chkC at h
  split at h
  · omega
  · omega
theorem hold34 {Q : Exit → St → Prop} {σ : St} (h : Hold (AW Try.prog c5_34 Q σ)) : AW Try.prog c5_34 Q σ := h.out
theorem hold40 {Q : Exit → St → Prop} {σ : St} (h : Hold (AW Try.prog c5_40 Q σ)) : AW Try.prog c5_40 Q σ := h.out
theorem hold47 {Q : Exit → St → Prop} {σ : St} (h : Hold (AW Try.prog c5_47 Q σ)) : AW Try.prog c5_47 Q σ := h.out
theorem hold56 {Q : Exit → St → Prop} {σ : St} (h : Hold (AW Try.prog c5_56 Q σ)) : AW Try.prog c5_56 Q σ := h.out
theorem hold66 {Q : Exit → St → Prop} {σ : St} (h : Hold (AW Try.prog c5_66 Q σ)) : AW Try.prog c5_66 Q σ := h.out
theorem hold70 {Q : Exit → St → Prop} {σ : St} (h : Hold (AW Try.prog c5_70 Q σ)) : AW Try.prog c5_70 Q σ := h.out
theorem hold77 {Q : Exit → St → Prop} {σ : St} (h : Hold (AW Try.prog c5_77 Q σ)) : AW Try.prog c5_77 Q σ := h.out
/-- the error of a list of coins and a side -/
def ofE (sd : Int) (l : List Cn) : Int :=
  if chkC l ≠ 0 then chkC l else if sd ≠ 0 ∧ sd ≠ 1 then 2 else if 7 < (colsN sd l).length ∨ 16 < (rowsN sd l).length then 6 else 0
def ofN (sd : Int) (l : List Cn) : Int := if ofE sd l = 0 then (colsN sd l).length else 0
def ofT (sd : Int) (l : List Cn) : CD := if ofE sd l = 0 then Tab (tabT sd l) else .nil
set_option maxHeartbeats 8000000 in
theorem r5 (l : List Cn) (sd : Int) : FnR Try.prog 5 [.c (Cns l), .I sd] [.c (.I (ofN sd l)), .c (ofT sd l), .c (.I (ofE sd l))] := by
  have g13 := r13 l
  by_cases h1 : chkC l = 0
  case neg =>
    have e1 : ofE sd l = chkC l := by unfold ofE; rw [if_pos h1]
    have e2 : ofN sd l = 0 := by unfold ofN; rw [e1, if_neg h1]
    have e3 : ofT sd l = .nil := by unfold ofT; rw [e1, if_neg h1]
    rw [e1, e2, e3]
    generalize chkC l = z at *
    have hz : (z = 0) = False := eq_false h1
    refine fn_walk code5 (by simp) ?_
    (repeat' (first | refine NextAt.mk (fun hc => ?_) (fun pre n v post hc hkey => ?_) | refine Sni.mk (fun hc => ?_) ?_ | refine Both.mk ?_ ?_ | refine AW_seq ?_ | refine AW_block ?_ | ((first | refine AW_reg ?_ | refine AW_cond ?_ | refine AW_skip ?_ | refine AW_exit ?_ | refine AW_ret ?_ | refine AW_regD (by kernel_rfl) ?_ | refine AW_regX (by kernel_rfl) ?_ | refine CallAtG.t (Eq.refl true) ?_ | refine CallAtG.f (Eq.refl false) ?_ | refine CallAt.mk _ (g13 ..) (by first | (intro h; cases h; done) | (intro _; repeat' (first | exact List.forall_mem_nil _ | trivial | refine List.forall_mem_cons.2 ⟨?_, ?_⟩)) | (intro _; simp [RV.flatP, CD.flatP, hz]; done)) ?_ | refine CallAtG.mk _ (fun _ => g13 ..) ?_ | refine CallDS.mk _ (by simp [RV.data]) (fun _ => g13 ..) (by first | (intro h; cases h; done) | (intro _; repeat' (first | exact List.forall_mem_nil _ | trivial | refine List.forall_mem_cons.2 ⟨?_, ?_⟩)) | (intro _; simp [RV.flatP, CD.flatP, hz]; done)) ?_); try simp (disch := omega) only [go_sem, seval, reduceCtorEq, ↓reduceIte, beq_dec, Int.toNat_natCast, IntKind.signed, IntKind.bits, hz]) | refine And.intro (fun hc => (?_ : AW _ _ _ _)) (fun hc => (?_ : AW _ _ _ _)) | simp (disch := omega) only [go_sem, seval, reduceCtorEq, ↓reduceIte, beq_dec, Int.toNat_natCast, IntKind.signed, IntKind.bits, hz] | (refine And.intro ?_ ?_; focus (first | (intros; omega) | (intros; simp_all; done))) | refine And.intro (?_ : CallAt _ _ _ _ _ _ _ _) ?_ | refine And.intro (?_ : CallAt _ _ _ _ _ _ _ _ ∧ _) ?_ | refine And.intro (?_ : AW _ _ _ _) ?_ | fail))
  case pos =>
    have hl := chk_len h1
    by_cases h2 : sd ≠ 0 ∧ sd ≠ 1
    · have e1 : ofE sd l = 2 := by unfold ofE; rw [if_neg (by omega), if_pos h2]
      have e2 : ofN sd l = 0 := by unfold ofN; rw [e1]; rfl
      have e3 : ofT sd l = .nil := by unfold ofT; rw [e1]; rfl
      rw [e1, e2, e3]
      rw [h1] at g13
      have hz : (sd = 0) = False := eq_false h2.1
      have hz' : (sd = 1) = False := eq_false h2.2
      refine fn_walk code5 (by simp) ?_
      (repeat' (first | refine NextAt.mk (fun hc => ?_) (fun pre n v post hc hkey => ?_) | refine Sni.mk (fun hc => ?_) ?_ | refine Both.mk ?_ ?_ | refine AW_seq ?_ | refine AW_block ?_ | ((first | refine AW_reg ?_ | refine AW_cond ?_ | refine AW_skip ?_ | refine AW_exit ?_ | refine AW_ret ?_ | refine AW_regD (by kernel_rfl) ?_ | refine AW_regX (by kernel_rfl) ?_ | refine CallAtG.t (Eq.refl true) ?_ | refine CallAtG.f (Eq.refl false) ?_ | refine CallAt.mk _ (g13 ..) (by first | (intro h; cases h; done) | (intro _; repeat' (first | exact List.forall_mem_nil _ | trivial | refine List.forall_mem_cons.2 ⟨?_, ?_⟩)) | (intro _; simp [RV.flatP, CD.flatP, hz, hz']; done)) ?_ | refine CallAtG.mk _ (fun _ => g13 ..) ?_ | refine CallDS.mk _ (by simp [RV.data]) (fun _ => g13 ..) (by first | (intro h; cases h; done) | (intro _; repeat' (first | exact List.forall_mem_nil _ | trivial | refine List.forall_mem_cons.2 ⟨?_, ?_⟩)) | (intro _; simp [RV.flatP, CD.flatP, hz, hz']; done)) ?_); try simp (disch := omega) only [go_sem, seval, reduceCtorEq, ↓reduceIte, beq_dec, Int.toNat_natCast, IntKind.signed, IntKind.bits, hz, hz']) | refine And.intro (fun hc => (?_ : AW _ _ _ _)) (fun hc => (?_ : AW _ _ _ _)) | simp (disch := omega) only [go_sem, seval, reduceCtorEq, ↓reduceIte, beq_dec, Int.toNat_natCast, IntKind.signed, IntKind.bits, hz, hz'] | (refine And.intro ?_ ?_; focus (first | (intros; omega) | (intros; simp_all; done))) | refine And.intro (?_ : CallAt _ _ _ _ _ _ _ _) ?_ | refine And.intro (?_ : CallAt _ _ _ _ _ _ _ _ ∧ _) ?_ | refine And.intro (?_ : AW _ _ _ _) ?_ | fail))
    · have ga := r15 900 (l.map (rowC sd)) (by simp; omega)
      have gb := r15 901 (l.map (colC sd)) (by simp; omega)
      have gc := r16 900 (srt (l.map (rowC sd))) (by rw [srt_len]; simp; omega)
      have gd := r16 901 (srt (l.map (colC sd))) (by rw [srt_len]; simp; omega)
      change FnW Try.prog 16 _ _ [.own 3 1 (iRow (rowsN sd l))] _ _ at gc
      change FnW Try.prog 16 _ _ [.own 3 1 (iRow (colsN sd l))] _ _ at gd
      have hR : (rowsN sd l).length ≤ 64 := by have := cs_len (l.map (rowC sd)); simp at this; unfold rowsN; omega
      have hC : (colsN sd l).length ≤ 64 := by have := cs_len (l.map (colC sd)); simp at this; unfold colsN; omega
      have hRp : ∀ i j, i < j → j < (rowsN sd l).length → nth (rowsN sd l) i < nth (rowsN sd l) j := cs_lt _
      have hCp : ∀ i j, i < j → j < (colsN sd l).length → nth (colsN sd l) i < nth (colsN sd l) j := cs_lt _
      have hsd : (!decide (sd = 0) && !decide (sd = 1)) = false := by
        by_cases h0 : sd = 0
        · simp [h0]
        · by_cases h3 : sd = 1
          · simp [h3]
          · omega
      rw [h1] at g13
      refine fn_walk code5 (by simp) ?_
      (repeat' (first | refine NextAt.mk (fun hc => ?_) (fun pre n v post hc hkey => ?_) | refine Sni.mk (fun hc => ?_) ?_ | refine Both.mk ?_ ?_ | refine AW_seq ?_ | refine AW_block ?_ | ((first | refine AW_reg ?_ | refine AW_cond ?_ | refine AW_skip ?_ | refine AW_exit ?_ | refine AW_ret ?_ | refine AW_regD (by kernel_rfl) ?_ | refine AW_regX (by kernel_rfl) ?_ | refine CallAtG.t (Eq.refl true) ?_ | refine CallAtG.f (Eq.refl false) ?_ | refine CallAt.mk _ (g13 ..) (by first | (intro h; cases h; done) | (intro _; repeat' (first | exact List.forall_mem_nil _ | trivial | refine List.forall_mem_cons.2 ⟨?_, ?_⟩)) | (intro _; simp [RV.flatP, CD.flatP, hsd]; done)) ?_ | refine CallAtG.mk _ (fun _ => g13 ..) ?_ | refine CallDS.mk _ (by simp [RV.data]) (fun _ => g13 ..) (by first | (intro h; cases h; done) | (intro _; repeat' (first | exact List.forall_mem_nil _ | trivial | refine List.forall_mem_cons.2 ⟨?_, ?_⟩)) | (intro _; simp [RV.flatP, CD.flatP, hsd]; done)) ?_); try simp (disch := omega) only [go_sem, seval, reduceCtorEq, ↓reduceIte, beq_dec, Int.toNat_natCast, IntKind.signed, IntKind.bits, hsd]) | refine And.intro (fun hc => (?_ : AW _ _ _ _)) (fun hc => (?_ : AW _ _ _ _)) | simp (disch := omega) only [go_sem, seval, reduceCtorEq, ↓reduceIte, beq_dec, Int.toNat_natCast, IntKind.signed, IntKind.bits, hsd] | (refine And.intro ?_ ?_; focus (first | (intros; omega) | (intros; simp_all; done))) | refine And.intro (?_ : CallAt _ _ _ _ _ _ _ _) ?_ | refine And.intro (?_ : CallAt _ _ _ _ _ _ _ _ ∧ _) ?_ | refine And.intro (?_ : AW _ _ _ _) ?_ | fail))
      refine AW_nil 8 900 3 1 (by rfl) ?_
      simp (disch := omega) only [go_sem, seval, reduceCtorEq, ↓reduceIte, beq_dec, Int.toNat_natCast, IntKind.signed, IntKind.bits]
      refine AW_nil 9 901 3 1 (by rfl) ?_
      simp (disch := omega) only [go_sem, seval, reduceCtorEq, ↓reduceIte, beq_dec, Int.toNat_natCast, IntKind.signed, IntKind.bits]
      refine AW_loopK [0, 1, 36, 37] [8, 9, 11, 12, 13, 38, 39, 40, 41, 42, 43, 44, 45, 46, 47, 48, 49, 50, 51, 52, 53, 54, 55, 56] (fun i : Nat => i ≤ l.length) (fun i => [(38, .I i), (8, .own 900), (9, .own 901)]) (fun i => [(900, .arr 3 1 (iRow ((l.take i).map (rowC sd)))), (901, .arr 3 1 (iRow ((l.take i).map (colC sd))))]) (fun i => l.length - i) 0 (by omega) ?_ ?_
      · simp (disch := omega) only [go_sem, seval, reduceCtorEq, ↓reduceIte, beq_dec, Int.toNat_natCast, IntKind.signed, IntKind.bits, Int.natCast_zero, List.take_zero, List.map_nil]
      · intro i hi
        have g14 := r14 (nth l i) sd
        have t1 := take_map_snoc (rowC sd) l i
        have t2 := take_map_snoc (colC sd) l i
        (repeat' (first | refine NextAt.mk (fun hc => ?_) (fun pre n v post hc hkey => ?_) | refine Sni.mk (fun hc => ?_) ?_ | refine Both.mk ?_ ?_ | refine AW_seq ?_ | refine AW_block ?_ | ((first | refine AW_reg ?_ | refine AW_cond ?_ | refine AW_skip ?_ | refine AW_exit ?_ | refine AW_ret ?_ | refine AW_regD (by kernel_rfl) ?_ | refine AW_regX (by kernel_rfl) ?_ | refine CallAtG.t (Eq.refl true) ?_ | refine CallAtG.f (Eq.refl false) ?_ | refine CallAt.mk _ (g14 ..) (by first | (intro h; cases h; done) | (intro _; repeat' (first | exact List.forall_mem_nil _ | trivial | refine List.forall_mem_cons.2 ⟨?_, ?_⟩)) | (intro _; simp [RV.flatP, CD.flatP, getD_map Cn.cd, Cn.cd, List.length_map, List.length_take, maxLen]; done)) ?_ | refine CallAtG.mk _ (fun _ => g14 ..) ?_ | refine CallDS.mk _ (by simp [RV.data]) (fun _ => g14 ..) (by first | (intro h; cases h; done) | (intro _; repeat' (first | exact List.forall_mem_nil _ | trivial | refine List.forall_mem_cons.2 ⟨?_, ?_⟩)) | (intro _; simp [RV.flatP, CD.flatP, getD_map Cn.cd, Cn.cd, List.length_map, List.length_take, maxLen]; done)) ?_); try simp (disch := omega) only [go_sem, seval, reduceCtorEq, ↓reduceIte, beq_dec, Int.toNat_natCast, IntKind.signed, IntKind.bits, getD_map Cn.cd, Cn.cd, List.length_map, List.length_take, maxLen]) | refine And.intro (fun hc => (?_ : AW _ _ _ _)) (fun hc => (?_ : AW _ _ _ _)) | simp (disch := omega) only [go_sem, seval, reduceCtorEq, ↓reduceIte, beq_dec, Int.toNat_natCast, IntKind.signed, IntKind.bits, getD_map Cn.cd, Cn.cd, List.length_map, List.length_take, maxLen] | (refine And.intro ?_ ?_; focus (first | (intros; omega) | (intros; simp_all; done))) | refine And.intro (?_ : CallAt _ _ _ _ _ _ _ _) ?_ | refine And.intro (?_ : CallAt _ _ _ _ _ _ _ _ ∧ _) ?_ | refine And.intro (?_ : AW _ _ _ _) ?_ | fail))
        · refine .mk (i + 1) (by omega) (by omega) ?_
          rw [t1 (by omega), t2 (by omega)]
          simp (disch := omega) only [go_sem, seval, reduceCtorEq, ↓reduceIte, beq_dec, Int.toNat_natCast, IntKind.signed, IntKind.bits, Int.natCast_add, Int.natCast_one]
        · obtain rfl : i = l.length := by omega
          rw [List.take_length]
          (repeat' (first | (with_reducible refine hold34 ?_; try simp (disch := omega) only [go_sem, seval, reduceCtorEq, ↓reduceIte, beq_dec, Int.toNat_natCast, IntKind.signed, IntKind.bits]) | refine NextAt.mk (fun hc => ?_) (fun pre n v post hc hkey => ?_) | refine Sni.mk (fun hc => ?_) ?_ | refine Both.mk ?_ ?_ | refine AW_seq ?_ | refine AW_block ?_ | ((first | refine AW_reg ?_ | refine AW_cond ?_ | refine AW_skip ?_ | refine AW_exit ?_ | refine AW_ret ?_ | refine AW_regD (by kernel_rfl) ?_ | refine AW_regX (by kernel_rfl) ?_ | refine CallAt.mkW (ga ..) (by rfl) (by simp (disch := omega) only [go_sem, seval, reduceCtorEq, ↓reduceIte, beq_dec, Int.toNat_natCast, IntKind.signed, IntKind.bits]) (by rfl) (by rfl) (by first | (intro h; cases h; done) | (intro _; simp [RV.flatP, CD.flatP, flatOb, AO.flatP]; done)) ?_ | refine CallAt.mkW (gb ..) (by rfl) (by simp (disch := omega) only [go_sem, seval, reduceCtorEq, ↓reduceIte, beq_dec, Int.toNat_natCast, IntKind.signed, IntKind.bits]) (by rfl) (by rfl) (by first | (intro h; cases h; done) | (intro _; simp [RV.flatP, CD.flatP, flatOb, AO.flatP]; done)) ?_ | refine CallAt.mkW (gc ..) (by rfl) (by simp (disch := omega) only [go_sem, seval, reduceCtorEq, ↓reduceIte, beq_dec, Int.toNat_natCast, IntKind.signed, IntKind.bits]) (by rfl) (by rfl) (by first | (intro h; cases h; done) | (intro _; simp [RV.flatP, CD.flatP, flatOb, AO.flatP]; done)) ?_ | refine CallAt.mkW (gd ..) (by rfl) (by simp (disch := omega) only [go_sem, seval, reduceCtorEq, ↓reduceIte, beq_dec, Int.toNat_natCast, IntKind.signed, IntKind.bits]) (by rfl) (by rfl) (by first | (intro h; cases h; done) | (intro _; simp [RV.flatP, CD.flatP, flatOb, AO.flatP]; done)) ?_ | refine CallAtG.t (Eq.refl true) ?_ | refine CallAtG.f (Eq.refl false) ?_); try simp (disch := omega) only [go_sem, seval, reduceCtorEq, ↓reduceIte, beq_dec, Int.toNat_natCast, IntKind.signed, IntKind.bits]) | refine And.intro (fun hc => (?_ : AW _ _ _ _)) (fun hc => (?_ : AW _ _ _ _)) | simp (disch := omega) only [go_sem, seval, reduceCtorEq, ↓reduceIte, beq_dec, Int.toNat_natCast, IntKind.signed, IntKind.bits] | (refine And.intro ?_ ?_; focus (first | (intros; omega) | (intros; simp_all; done))) | refine And.intro (?_ : CallAt _ _ _ _ _ _ _ _) ?_ | refine And.intro (?_ : CallAt _ _ _ _ _ _ _ _ ∧ _) ?_ | refine And.intro (?_ : AW _ _ _ _) ?_ | fail))
          refine ⟨AW_frz [62, 64] ?_⟩
          simp (disch := omega) only [go_sem, seval, reduceCtorEq, ↓reduceIte, beq_dec, Int.toNat_natCast, IntKind.signed, IntKind.bits]
          have eR : CD.sl 1 (iRow (rowsN sd l)) = Row (rowsN sd l) := rfl
          have eC : CD.sl 1 (iRow (colsN sd l)) = Row (colsN sd l) := rfl
          rw [eR, eC]
          have lR : (iRow (rowsN sd l)).length = (rowsN sd l).length := by simp
          have lC : (iRow (colsN sd l)).length = (colsN sd l).length := by simp
          by_cases h3 : 7 < (colsN sd l).length ∨ 16 < (rowsN sd l).length
          · have e1 : ofE sd l = 6 := by unfold ofE; rw [if_neg (by omega), if_neg h2, if_pos h3]
            have e2 : ofN sd l = 0 := by unfold ofN; rw [e1]; rfl
            have e3 : ofT sd l = .nil := by unfold ofT; rw [e1]; rfl
            rw [e1, e2, e3]
            clear t1 t2 g14 ga gb gc gd g13
            rcases Nat.lt_or_ge 7 (colsN sd l).length with h4 | h4
            · have z1 : decide ((7 : Int) < ((colsN sd l).length : Int)) = true := decide_eq_true (by omega)
              (repeat' (first | refine NextAt.mk (fun hc => ?_) (fun pre n v post hc hkey => ?_) | refine Sni.mk (fun hc => ?_) ?_ | refine Both.mk ?_ ?_ | refine AW_seq ?_ | refine AW_block ?_ | ((first | refine AW_reg ?_ | refine AW_cond ?_ | refine AW_skip ?_ | refine AW_exit ?_ | refine AW_ret ?_ | refine AW_regD (by kernel_rfl) ?_ | refine AW_regX (by kernel_rfl) ?_ | refine CallAtG.t (Eq.refl true) ?_ | refine CallAtG.f (Eq.refl false) ?_); try simp (disch := omega) only [go_sem, seval, reduceCtorEq, ↓reduceIte, beq_dec, Int.toNat_natCast, IntKind.signed, IntKind.bits, List.length_map, z1, h4]) | refine And.intro (fun hc => (?_ : AW _ _ _ _)) (fun hc => (?_ : AW _ _ _ _)) | simp (disch := omega) only [go_sem, seval, reduceCtorEq, ↓reduceIte, beq_dec, Int.toNat_natCast, IntKind.signed, IntKind.bits, List.length_map, z1, h4] | (refine And.intro ?_ ?_; focus (first | (intros; omega) | (intros; simp_all; done))) | refine And.intro (?_ : CallAt _ _ _ _ _ _ _ _) ?_ | refine And.intro (?_ : CallAt _ _ _ _ _ _ _ _ ∧ _) ?_ | refine And.intro (?_ : AW _ _ _ _) ?_ | fail))
            · have z1 : decide ((7 : Int) < ((colsN sd l).length : Int)) = false := decide_eq_false (by omega)
              have z2 : decide ((16 : Int) < ((rowsN sd l).length : Int)) = true := decide_eq_true (by omega)
              (repeat' (first | refine NextAt.mk (fun hc => ?_) (fun pre n v post hc hkey => ?_) | refine Sni.mk (fun hc => ?_) ?_ | refine Both.mk ?_ ?_ | refine AW_seq ?_ | refine AW_block ?_ | ((first | refine AW_reg ?_ | refine AW_cond ?_ | refine AW_skip ?_ | refine AW_exit ?_ | refine AW_ret ?_ | refine AW_regD (by kernel_rfl) ?_ | refine AW_regX (by kernel_rfl) ?_ | refine CallAtG.t (Eq.refl true) ?_ | refine CallAtG.f (Eq.refl false) ?_); try simp (disch := omega) only [go_sem, seval, reduceCtorEq, ↓reduceIte, beq_dec, Int.toNat_natCast, IntKind.signed, IntKind.bits, List.length_map, z1, z2]) | refine And.intro (fun hc => (?_ : AW _ _ _ _)) (fun hc => (?_ : AW _ _ _ _)) | simp (disch := omega) only [go_sem, seval, reduceCtorEq, ↓reduceIte, beq_dec, Int.toNat_natCast, IntKind.signed, IntKind.bits, List.length_map, z1, z2] | (refine And.intro ?_ ?_; focus (first | (intros; omega) | (intros; simp_all; done))) | refine And.intro (?_ : CallAt _ _ _ _ _ _ _ _) ?_ | refine And.intro (?_ : CallAt _ _ _ _ _ _ _ _ ∧ _) ?_ | refine And.intro (?_ : AW _ _ _ _) ?_ | fail))
          · have e1 : ofE sd l = 0 := by unfold ofE; rw [if_neg (by omega), if_neg h2, if_neg h3]
            have e2 : ofN sd l = (colsN sd l).length := by unfold ofN; rw [if_pos e1]
            have e3 : ofT sd l = Tab (tabT sd l) := by unfold ofT; rw [if_pos e1]
            rw [e1, e2, e3]
            have z1 : decide ((7 : Int) < ((colsN sd l).length : Int)) = false := decide_eq_false (by omega)
            have z2 : decide ((16 : Int) < ((rowsN sd l).length : Int)) = false := decide_eq_false (by omega)
            clear t1 t2 g14 ga gb gc gd g13
            (repeat' (first | (with_reducible refine hold40 ?_; try simp (disch := omega) only [go_sem, seval, reduceCtorEq, ↓reduceIte, beq_dec, Int.toNat_natCast, IntKind.signed, IntKind.bits, List.length_map, z1, z2, maxLen, Int.toNat_natCast]) | refine NextAt.mk (fun hc => ?_) (fun pre n v post hc hkey => ?_) | refine Sni.mk (fun hc => ?_) ?_ | refine Both.mk ?_ ?_ | refine AW_seq ?_ | refine AW_block ?_ | ((first | refine AW_reg ?_ | refine AW_cond ?_ | refine AW_skip ?_ | refine AW_exit ?_ | refine AW_ret ?_ | refine AW_regD (by kernel_rfl) ?_ | refine AW_regX (by kernel_rfl) ?_ | refine CallAtG.t (Eq.refl true) ?_ | refine CallAtG.f (Eq.refl false) ?_); try simp (disch := omega) only [go_sem, seval, reduceCtorEq, ↓reduceIte, beq_dec, Int.toNat_natCast, IntKind.signed, IntKind.bits, List.length_map, z1, z2, maxLen, Int.toNat_natCast]) | refine And.intro (fun hc => (?_ : AW _ _ _ _)) (fun hc => (?_ : AW _ _ _ _)) | simp (disch := omega) only [go_sem, seval, reduceCtorEq, ↓reduceIte, beq_dec, Int.toNat_natCast, IntKind.signed, IntKind.bits, List.length_map, z1, z2, maxLen, Int.toNat_natCast] | (refine And.intro ?_ ?_; focus (first | (intros; omega) | (intros; simp_all; done))) | refine And.intro (?_ : CallAt _ _ _ _ _ _ _ _) ?_ | refine And.intro (?_ : CallAt _ _ _ _ _ _ _ _ ∧ _) ?_ | refine And.intro (?_ : AW _ _ _ _) ?_ | fail))
            refine ⟨AW_toRows 75 3 1 (by rfl) (fun y hy => List.eq_of_mem_replicate hy) ?_⟩
            have tz : ((List.replicate (rowsN sd l).length [CD.nil]).map fun _ => ([] : List (List CD))) = rR (tabC (rowsN sd l) (colsN sd l) sd l 0) := by
              rw [tab0, List.map_replicate]
            rw [tz]
            simp (disch := omega) only [go_sem, seval, reduceCtorEq, ↓reduceIte, beq_dec, Int.toNat_natCast, IntKind.signed, IntKind.bits]
            (repeat' (first | refine NextAt.mk (fun hc => ?_) (fun pre n v post hc hkey => ?_) | refine Sni.mk (fun hc => ?_) ?_ | refine Both.mk ?_ ?_ | refine AW_seq ?_ | refine AW_block ?_ | ((first | refine AW_reg ?_ | refine AW_cond ?_ | refine AW_skip ?_ | refine AW_exit ?_ | refine AW_ret ?_ | refine AW_regD (by kernel_rfl) ?_ | refine AW_regX (by kernel_rfl) ?_ | refine CallAtG.t (Eq.refl true) ?_ | refine CallAtG.f (Eq.refl false) ?_); try simp (disch := omega) only [go_sem, seval, reduceCtorEq, ↓reduceIte, beq_dec, Int.toNat_natCast, IntKind.signed, IntKind.bits, List.length_map]) | refine And.intro (fun hc => (?_ : AW _ _ _ _)) (fun hc => (?_ : AW _ _ _ _)) | simp (disch := omega) only [go_sem, seval, reduceCtorEq, ↓reduceIte, beq_dec, Int.toNat_natCast, IntKind.signed, IntKind.bits, List.length_map] | (refine And.intro ?_ ?_; focus (first | (intros; omega) | (intros; simp_all; done))) | refine And.intro (?_ : CallAt _ _ _ _ _ _ _ _) ?_ | refine And.intro (?_ : CallAt _ _ _ _ _ _ _ _ ∧ _) ?_ | refine And.intro (?_ : AW _ _ _ _) ?_ | fail))
            have tl : ∀ k, (rR (tabC (rowsN sd l) (colsN sd l) sd l k)).length = (rowsN sd l).length := fun k => by rw [List.length_map]; exact tabC_len _ _ _ _ _
            refine AW_loopK [1, 8, 9, 14, 76, 77] [16, 17, 18, 19, 20, 21, 22, 78, 79, 80, 81, 82, 83, 84, 85, 86, 87, 88, 89, 90, 91, 92, 93, 94, 95, 96, 97, 98, 99, 100, 101, 102, 103, 104, 105, 106, 107, 108, 109, 110, 111, 112, 113, 114, 115, 116, 117] (fun k : Nat => k ≤ l.length) (fun k => [(78, .I k)]) (fun k => [(75, .rows 31 3 1 (rR (tabC (rowsN sd l) (colsN sd l) sd l k)) none none)]) (fun k => l.length - k) 0 (by omega) ?_ ?_
            · simp (disch := omega) only [go_sem, seval, reduceCtorEq, ↓reduceIte, beq_dec, Int.toNat_natCast, IntKind.signed, IntKind.bits, Int.natCast_zero]
            · intro k hk
              rcases Nat.lt_or_ge k l.length with hkl | hkl
              · have g14 := r14 (nth l k) sd
                obtain ⟨p1, p2⟩ := plc_lt (row_in sd l hkl)
                obtain ⟨q1, q2⟩ := plc_lt (col_in sd l hkl)
                have ga := r17 (rowsN sd l) (by omega) hRp _ p1
                have gb := r17 (colsN sd l) (by omega) hCp _ q1
                rw [p2] at ga
                rw [q2] at gb
                have hstep : tabC (rowsN sd l) (colsN sd l) sd l (k + 1) = (tabC (rowsN sd l) (colsN sd l) sd l k).set (plc (rowsN sd l) (rowC sd (nth l k))) (addU ((tabC (rowsN sd l) (colsN sd l) sd l k).getD (plc (rowsN sd l) (rowC sd (nth l k))) []) (plc (colsN sd l) (colC sd (nth l k)) : Nat)) := rfl
                have tlk := tl k
                have hlen := (tabC_row (rowsN sd l) (colsN sd l) sd l (plc (rowsN sd l) (rowC sd (nth l k))) k).2.1
                have g18 := f116 ((tabC (rowsN sd l) (colsN sd l) sd l k).getD (plc (rowsN sd l) (rowC sd (nth l k))) []) (plc (colsN sd l) (colC sd (nth l k)) : Nat)
                have hge := rR_get (tabC (rowsN sd l) (colsN sd l) sd l k) (plc (rowsN sd l) (rowC sd (nth l k)))
                have hkk : ((k : Int) < (l.length : Int)) = True := eq_true (by omega)
                generalize hP : plc (rowsN sd l) (rowC sd (nth l k)) = p at *
                generalize hQ : plc (colsN sd l) (colC sd (nth l k)) = q at *
                generalize hT : tabC (rowsN sd l) (colsN sd l) sd l k = T at *
                generalize hT' : tabC (rowsN sd l) (colsN sd l) sd l (k + 1) = T' at *
                generalize hD : T.getD p [] = D at *
                have hss := rR_set T p
                have hsm := set_same T p
                rw [hD] at hsm
                have hsn := iRow_snoc D q
                (repeat' (first | (with_reducible refine hold47 ?_; try simp (disch := omega) only [go_sem, seval, reduceCtorEq, ↓reduceIte, beq_dec, Int.toNat_natCast, IntKind.signed, IntKind.bits, getD_map Cn.cd, Cn.cd, hkk]) | refine NextAt.mk (fun hc => ?_) (fun pre n v post hc hkey => ?_) | refine Sni.mk (fun hc => ?_) ?_ | refine Both.mk ?_ ?_ | refine AW_seq ?_ | refine AW_block ?_ | ((first | refine AW_reg ?_ | refine AW_cond ?_ | refine AW_skip ?_ | refine AW_exit ?_ | refine AW_ret ?_ | refine AW_regD (by kernel_rfl) ?_ | refine AW_regX (by kernel_rfl) ?_ | refine CallAtG.t (Eq.refl true) ?_ | refine CallAtG.f (Eq.refl false) ?_ | refine CallAt.mk _ (g14 ..) (by first | (intro h; cases h; done) | (intro _; repeat' (first | exact List.forall_mem_nil _ | trivial | refine List.forall_mem_cons.2 ⟨?_, ?_⟩)) | (intro _; simp [RV.flatP, CD.flatP, getD_map Cn.cd, Cn.cd, hkk]; done)) ?_ | refine CallAtG.mk _ (fun _ => g14 ..) ?_ | refine CallDS.mk _ (by simp [RV.data]) (fun _ => g14 ..) (by first | (intro h; cases h; done) | (intro _; repeat' (first | exact List.forall_mem_nil _ | trivial | refine List.forall_mem_cons.2 ⟨?_, ?_⟩)) | (intro _; simp [RV.flatP, CD.flatP, getD_map Cn.cd, Cn.cd, hkk]; done)) ?_ | refine CallAt.mk _ (ga ..) (by first | (intro h; cases h; done) | (intro _; repeat' (first | exact List.forall_mem_nil _ | trivial | refine List.forall_mem_cons.2 ⟨?_, ?_⟩)) | (intro _; simp [RV.flatP, CD.flatP, getD_map Cn.cd, Cn.cd, hkk]; done)) ?_ | refine CallAtG.mk _ (fun _ => ga ..) ?_ | refine CallDS.mk _ (by simp [RV.data]) (fun _ => ga ..) (by first | (intro h; cases h; done) | (intro _; repeat' (first | exact List.forall_mem_nil _ | trivial | refine List.forall_mem_cons.2 ⟨?_, ?_⟩)) | (intro _; simp [RV.flatP, CD.flatP, getD_map Cn.cd, Cn.cd, hkk]; done)) ?_ | refine CallAt.mk _ (gb ..) (by first | (intro h; cases h; done) | (intro _; repeat' (first | exact List.forall_mem_nil _ | trivial | refine List.forall_mem_cons.2 ⟨?_, ?_⟩)) | (intro _; simp [RV.flatP, CD.flatP, getD_map Cn.cd, Cn.cd, hkk]; done)) ?_ | refine CallAtG.mk _ (fun _ => gb ..) ?_ | refine CallDS.mk _ (by simp [RV.data]) (fun _ => gb ..) (by first | (intro h; cases h; done) | (intro _; repeat' (first | exact List.forall_mem_nil _ | trivial | refine List.forall_mem_cons.2 ⟨?_, ?_⟩)) | (intro _; simp [RV.flatP, CD.flatP, getD_map Cn.cd, Cn.cd, hkk]; done)) ?_); try simp (disch := omega) only [go_sem, seval, reduceCtorEq, ↓reduceIte, beq_dec, Int.toNat_natCast, IntKind.signed, IntKind.bits, getD_map Cn.cd, Cn.cd, hkk]) | refine And.intro (fun hc => (?_ : AW _ _ _ _)) (fun hc => (?_ : AW _ _ _ _)) | simp (disch := omega) only [go_sem, seval, reduceCtorEq, ↓reduceIte, beq_dec, Int.toNat_natCast, IntKind.signed, IntKind.bits, getD_map Cn.cd, Cn.cd, hkk] | (refine And.intro ?_ ?_; focus (first | (intros; omega) | (intros; simp_all; done))) | refine And.intro (?_ : CallAt _ _ _ _ _ _ _ _) ?_ | refine And.intro (?_ : CallAt _ _ _ _ _ _ _ _ ∧ _) ?_ | refine And.intro (?_ : AW _ _ _ _) ?_ | fail))
                refine ⟨AW_out 75 902 p (by rfl) (by omega) ?_⟩
                simp (disch := omega) only [go_sem, seval, reduceCtorEq, ↓reduceIte, beq_dec, Int.toNat_natCast, IntKind.signed, IntKind.bits, hge]
                have hDl : (iRow D).length = D.length := by simp
                by_cases hin : (q : Int) ∈ D
                · rw [decide_eq_true hin] at g18
                  have hst : (rR T).set p (iRow D) = rR T' := by rw [hss, hstep]; unfold addU; rw [if_pos hin]
                  (repeat' (first | (with_reducible refine hold56 ?_; try simp (disch := omega) only [go_sem, seval, reduceCtorEq, ↓reduceIte, beq_dec, Int.toNat_natCast, IntKind.signed, IntKind.bits, tlk]) | refine NextAt.mk (fun hc => ?_) (fun pre n v post hc hkey => ?_) | refine Sni.mk (fun hc => ?_) ?_ | refine Both.mk ?_ ?_ | refine AW_seq ?_ | refine AW_block ?_ | ((first | refine AW_reg ?_ | refine AW_cond ?_ | refine AW_skip ?_ | refine AW_exit ?_ | refine AW_ret ?_ | refine AW_regD (by kernel_rfl) ?_ | refine AW_regX (by kernel_rfl) ?_ | refine CallAtG.t (Eq.refl true) ?_ | refine CallAtG.f (Eq.refl false) ?_ | refine CallAt.mk _ (g18 ..) (by first | (intro h; cases h; done) | (intro _; repeat' (first | exact List.forall_mem_nil _ | trivial | refine List.forall_mem_cons.2 ⟨?_, ?_⟩)) | (intro _; simp [RV.flatP, CD.flatP, tlk]; done)) ?_ | refine CallAtG.mk _ (fun _ => g18 ..) ?_ | refine CallDS.mk _ (by simp [RV.data]) (fun _ => g18 ..) (by first | (intro h; cases h; done) | (intro _; repeat' (first | exact List.forall_mem_nil _ | trivial | refine List.forall_mem_cons.2 ⟨?_, ?_⟩)) | (intro _; simp [RV.flatP, CD.flatP, tlk]; done)) ?_); try simp (disch := omega) only [go_sem, seval, reduceCtorEq, ↓reduceIte, beq_dec, Int.toNat_natCast, IntKind.signed, IntKind.bits, tlk]) | refine And.intro (fun hc => (?_ : AW _ _ _ _)) (fun hc => (?_ : AW _ _ _ _)) | simp (disch := omega) only [go_sem, seval, reduceCtorEq, ↓reduceIte, beq_dec, Int.toNat_natCast, IntKind.signed, IntKind.bits, tlk] | (refine And.intro ?_ ?_; focus (first | (intros; omega) | (intros; simp_all; done))) | refine And.intro (?_ : CallAt _ _ _ _ _ _ _ _) ?_ | refine And.intro (?_ : CallAt _ _ _ _ _ _ _ _ ∧ _) ?_ | refine And.intro (?_ : AW _ _ _ _) ?_ | fail))
                  refine ⟨AW_inn 75 902 p (by rfl) (by rfl) ?_⟩
                  simp (disch := omega) only [go_sem, seval, reduceCtorEq, ↓reduceIte, beq_dec, Int.toNat_natCast, IntKind.signed, IntKind.bits, hst]
                  (repeat' (first | refine NextAt.mk (fun hc => ?_) (fun pre n v post hc hkey => ?_) | refine Sni.mk (fun hc => ?_) ?_ | refine Both.mk ?_ ?_ | refine AW_seq ?_ | refine AW_block ?_ | ((first | refine AW_reg ?_ | refine AW_cond ?_ | refine AW_skip ?_ | refine AW_exit ?_ | refine AW_ret ?_ | refine AW_regD (by kernel_rfl) ?_ | refine AW_regX (by kernel_rfl) ?_ | refine CallAtG.t (Eq.refl true) ?_ | refine CallAtG.f (Eq.refl false) ?_); try simp (disch := omega) only [go_sem, seval, reduceCtorEq, ↓reduceIte, beq_dec, Int.toNat_natCast, IntKind.signed, IntKind.bits]) | refine And.intro (fun hc => (?_ : AW _ _ _ _)) (fun hc => (?_ : AW _ _ _ _)) | simp (disch := omega) only [go_sem, seval, reduceCtorEq, ↓reduceIte, beq_dec, Int.toNat_natCast, IntKind.signed, IntKind.bits] | (refine And.intro ?_ ?_; focus (first | (intros; omega) | (intros; simp_all; done))) | refine And.intro (?_ : CallAt _ _ _ _ _ _ _ _) ?_ | refine And.intro (?_ : CallAt _ _ _ _ _ _ _ _ ∧ _) ?_ | refine And.intro (?_ : AW _ _ _ _) ?_ | fail))
                  refine .mk (k + 1) (by omega) (by omega) ?_
                  rw [hT']
                  simp (disch := omega) only [go_sem, seval, reduceCtorEq, ↓reduceIte, beq_dec, Int.toNat_natCast, IntKind.signed, IntKind.bits, Int.natCast_add, Int.natCast_one]
                · rw [decide_eq_false hin] at g18
                  have hst : rR (T.set p (D ++ [(q : Int)])) = rR T' := by rw [hstep]; unfold addU; rw [if_neg hin]
                  (repeat' (first | (with_reducible refine hold56 ?_; try simp (disch := omega) only [go_sem, seval, reduceCtorEq, ↓reduceIte, beq_dec, Int.toNat_natCast, IntKind.signed, IntKind.bits, List.length_map, maxLen, tlk]) | refine NextAt.mk (fun hc => ?_) (fun pre n v post hc hkey => ?_) | refine Sni.mk (fun hc => ?_) ?_ | refine Both.mk ?_ ?_ | refine AW_seq ?_ | refine AW_block ?_ | ((first | refine AW_reg ?_ | refine AW_cond ?_ | refine AW_skip ?_ | refine AW_exit ?_ | refine AW_ret ?_ | refine AW_regD (by kernel_rfl) ?_ | refine AW_regX (by kernel_rfl) ?_ | refine CallAtG.t (Eq.refl true) ?_ | refine CallAtG.f (Eq.refl false) ?_ | refine CallAt.mk _ (g18 ..) (by first | (intro h; cases h; done) | (intro _; repeat' (first | exact List.forall_mem_nil _ | trivial | refine List.forall_mem_cons.2 ⟨?_, ?_⟩)) | (intro _; simp [RV.flatP, CD.flatP, List.length_map, maxLen, tlk]; done)) ?_ | refine CallAtG.mk _ (fun _ => g18 ..) ?_ | refine CallDS.mk _ (by simp [RV.data]) (fun _ => g18 ..) (by first | (intro h; cases h; done) | (intro _; repeat' (first | exact List.forall_mem_nil _ | trivial | refine List.forall_mem_cons.2 ⟨?_, ?_⟩)) | (intro _; simp [RV.flatP, CD.flatP, List.length_map, maxLen, tlk]; done)) ?_); try simp (disch := omega) only [go_sem, seval, reduceCtorEq, ↓reduceIte, beq_dec, Int.toNat_natCast, IntKind.signed, IntKind.bits, List.length_map, maxLen, tlk]) | refine And.intro (fun hc => (?_ : AW _ _ _ _)) (fun hc => (?_ : AW _ _ _ _)) | simp (disch := omega) only [go_sem, seval, reduceCtorEq, ↓reduceIte, beq_dec, Int.toNat_natCast, IntKind.signed, IntKind.bits, List.length_map, maxLen, tlk] | (refine And.intro ?_ ?_; focus (first | (intros; omega) | (intros; simp_all; done))) | refine And.intro (?_ : CallAt _ _ _ _ _ _ _ _) ?_ | refine And.intro (?_ : CallAt _ _ _ _ _ _ _ _ ∧ _) ?_ | refine And.intro (?_ : AW _ _ _ _) ?_ | fail))
                  repeat' apply And.intro
                  all_goals first | assumption | omega | skip
                  refine ⟨AW_inn 75 902 p (by rfl) (by rfl) ?_⟩
                  simp (disch := omega) only [go_sem, seval, reduceCtorEq, ↓reduceIte, beq_dec, Int.toNat_natCast, IntKind.signed, IntKind.bits, hsn, hss, hst]
                  (repeat' (first | refine NextAt.mk (fun hc => ?_) (fun pre n v post hc hkey => ?_) | refine Sni.mk (fun hc => ?_) ?_ | refine Both.mk ?_ ?_ | refine AW_seq ?_ | refine AW_block ?_ | ((first | refine AW_reg ?_ | refine AW_cond ?_ | refine AW_skip ?_ | refine AW_exit ?_ | refine AW_ret ?_ | refine AW_regD (by kernel_rfl) ?_ | refine AW_regX (by kernel_rfl) ?_ | refine CallAtG.t (Eq.refl true) ?_ | refine CallAtG.f (Eq.refl false) ?_); try simp (disch := omega) only [go_sem, seval, reduceCtorEq, ↓reduceIte, beq_dec, Int.toNat_natCast, IntKind.signed, IntKind.bits]) | refine And.intro (fun hc => (?_ : AW _ _ _ _)) (fun hc => (?_ : AW _ _ _ _)) | simp (disch := omega) only [go_sem, seval, reduceCtorEq, ↓reduceIte, beq_dec, Int.toNat_natCast, IntKind.signed, IntKind.bits] | (refine And.intro ?_ ?_; focus (first | (intros; omega) | (intros; simp_all; done))) | refine And.intro (?_ : CallAt _ _ _ _ _ _ _ _) ?_ | refine And.intro (?_ : CallAt _ _ _ _ _ _ _ _ ∧ _) ?_ | refine And.intro (?_ : AW _ _ _ _) ?_ | fail))
                  refine .mk (k + 1) (by omega) (by omega) ?_
                  rw [hT']
                  simp (disch := omega) only [go_sem, seval, reduceCtorEq, ↓reduceIte, beq_dec, Int.toNat_natCast, IntKind.signed, IntKind.bits, Int.natCast_add, Int.natCast_one]
              · obtain rfl : k = l.length := by omega
                have hm0 : mixT (tabC (rowsN sd l) (colsN sd l) sd l l.length) 0 = tabC (rowsN sd l) (colsN sd l) sd l l.length := by unfold mixT; simp
                have hmn := mixT_all sd l (rowsN sd l).length rfl
                have htl := tl l.length
                have htr := fun h => (tabC_row (rowsN sd l) (colsN sd l) sd l h l.length).2.1
                generalize tabC (rowsN sd l) (colsN sd l) sd l l.length = T at *
                rw [← hm0]
                have htl' : T.length = (rowsN sd l).length := by simpa using htl
                rw [← htl'] at hmn
                have hml : ∀ i, (rR (mixT T i)).length = T.length := fun i => by rw [List.length_map]; exact mixT_len T i
                have hkk : ((l.length : Int) < (l.length : Int)) = False := eq_false (by omega)
                (repeat' (first | refine NextAt.mk (fun hc => ?_) (fun pre n v post hc hkey => ?_) | refine Sni.mk (fun hc => ?_) ?_ | refine Both.mk ?_ ?_ | refine AW_seq ?_ | refine AW_block ?_ | ((first | refine AW_reg ?_ | refine AW_cond ?_ | refine AW_skip ?_ | refine AW_exit ?_ | refine AW_ret ?_ | refine AW_regD (by kernel_rfl) ?_ | refine AW_regX (by kernel_rfl) ?_ | refine CallAtG.t (Eq.refl true) ?_ | refine CallAtG.f (Eq.refl false) ?_); try simp (disch := omega) only [go_sem, seval, reduceCtorEq, ↓reduceIte, beq_dec, Int.toNat_natCast, IntKind.signed, IntKind.bits, hkk, hml]) | refine And.intro (fun hc => (?_ : AW _ _ _ _)) (fun hc => (?_ : AW _ _ _ _)) | simp (disch := omega) only [go_sem, seval, reduceCtorEq, ↓reduceIte, beq_dec, Int.toNat_natCast, IntKind.signed, IntKind.bits, hkk, hml] | (refine And.intro ?_ ?_; focus (first | (intros; omega) | (intros; simp_all; done))) | refine And.intro (?_ : CallAt _ _ _ _ _ _ _ _) ?_ | refine And.intro (?_ : CallAt _ _ _ _ _ _ _ _ ∧ _) ?_ | refine And.intro (?_ : AW _ _ _ _) ?_ | fail))
                refine AW_loopK [9, 14, 118, 119] [24, 120, 121, 122, 123, 124, 125, 126] (fun i : Nat => i ≤ T.length) (fun i => [(120, .I i)]) (fun i => [(75, .rows 31 3 1 (rR (mixT T i)) none none)]) (fun i => T.length - i) 0 (by omega) ?_ ?_
                · simp (disch := omega) only [go_sem, seval, reduceCtorEq, ↓reduceIte, beq_dec, Int.toNat_natCast, IntKind.signed, IntKind.bits, Int.natCast_zero]
                · intro i hi
                  rcases Nat.lt_or_ge i T.length with hil | hil
                  · have ga := r15 903 (T.getD i []) (by have := htr i; omega)
                    have hge := rR_get (mixT T i) i
                    rw [mixT_get T i hil] at hge
                    have hss := rR_set (mixT T i) i (srt (T.getD i []))
                    rw [mixT_set T i hil] at hss
                    have hml' := hml i
                    have hik : ((i : Int) < (T.length : Int)) = True := eq_true (by omega)
                    generalize T.getD i [] = D at *
                    generalize hM : mixT T i = M at *
                    generalize hM' : mixT T (i + 1) = M' at *
                    (repeat' (first | (with_reducible refine hold66 ?_; try simp (disch := omega) only [go_sem, seval, reduceCtorEq, ↓reduceIte, beq_dec, Int.toNat_natCast, IntKind.signed, IntKind.bits, hik]) | refine NextAt.mk (fun hc => ?_) (fun pre n v post hc hkey => ?_) | refine Sni.mk (fun hc => ?_) ?_ | refine Both.mk ?_ ?_ | refine AW_seq ?_ | refine AW_block ?_ | ((first | refine AW_reg ?_ | refine AW_cond ?_ | refine AW_skip ?_ | refine AW_exit ?_ | refine AW_ret ?_ | refine AW_regD (by kernel_rfl) ?_ | refine AW_regX (by kernel_rfl) ?_ | refine CallAtG.t (Eq.refl true) ?_ | refine CallAtG.f (Eq.refl false) ?_); try simp (disch := omega) only [go_sem, seval, reduceCtorEq, ↓reduceIte, beq_dec, Int.toNat_natCast, IntKind.signed, IntKind.bits, hik]) | refine And.intro (fun hc => (?_ : AW _ _ _ _)) (fun hc => (?_ : AW _ _ _ _)) | simp (disch := omega) only [go_sem, seval, reduceCtorEq, ↓reduceIte, beq_dec, Int.toNat_natCast, IntKind.signed, IntKind.bits, hik] | (refine And.intro ?_ ?_; focus (first | (intros; omega) | (intros; simp_all; done))) | refine And.intro (?_ : CallAt _ _ _ _ _ _ _ _) ?_ | refine And.intro (?_ : CallAt _ _ _ _ _ _ _ _ ∧ _) ?_ | refine And.intro (?_ : AW _ _ _ _) ?_ | fail))
                    refine ⟨AW_out 75 903 i (by rfl) (by omega) ?_⟩
                    simp (disch := omega) only [go_sem, seval, reduceCtorEq, ↓reduceIte, beq_dec, Int.toNat_natCast, IntKind.signed, IntKind.bits, hge]
                    (repeat' (first | (with_reducible refine hold70 ?_; try simp (disch := omega) only [go_sem, seval, reduceCtorEq, ↓reduceIte, beq_dec, Int.toNat_natCast, IntKind.signed, IntKind.bits, hml']) | refine NextAt.mk (fun hc => ?_) (fun pre n v post hc hkey => ?_) | refine Sni.mk (fun hc => ?_) ?_ | refine Both.mk ?_ ?_ | refine AW_seq ?_ | refine AW_block ?_ | ((first | refine AW_reg ?_ | refine AW_cond ?_ | refine AW_skip ?_ | refine AW_exit ?_ | refine AW_ret ?_ | refine AW_regD (by kernel_rfl) ?_ | refine AW_regX (by kernel_rfl) ?_ | refine CallAt.mkW (ga ..) (by rfl) (by simp (disch := omega) only [go_sem, seval, reduceCtorEq, ↓reduceIte, beq_dec, Int.toNat_natCast, IntKind.signed, IntKind.bits, hml']) (by rfl) (by rfl) (by first | (intro h; cases h; done) | (intro _; simp [RV.flatP, CD.flatP, flatOb, AO.flatP, hml']; done)) ?_ | refine CallAtG.t (Eq.refl true) ?_ | refine CallAtG.f (Eq.refl false) ?_); try simp (disch := omega) only [go_sem, seval, reduceCtorEq, ↓reduceIte, beq_dec, Int.toNat_natCast, IntKind.signed, IntKind.bits, hml']) | refine And.intro (fun hc => (?_ : AW _ _ _ _)) (fun hc => (?_ : AW _ _ _ _)) | simp (disch := omega) only [go_sem, seval, reduceCtorEq, ↓reduceIte, beq_dec, Int.toNat_natCast, IntKind.signed, IntKind.bits, hml'] | (refine And.intro ?_ ?_; focus (first | (intros; omega) | (intros; simp_all; done))) | refine And.intro (?_ : CallAt _ _ _ _ _ _ _ _) ?_ | refine And.intro (?_ : CallAt _ _ _ _ _ _ _ _ ∧ _) ?_ | refine And.intro (?_ : AW _ _ _ _) ?_ | fail))
                    refine ⟨AW_inn 75 903 i (by rfl) (by rfl) ?_⟩
                    simp (disch := omega) only [go_sem, seval, reduceCtorEq, ↓reduceIte, beq_dec, Int.toNat_natCast, IntKind.signed, IntKind.bits, hss]
                    (repeat' (first | refine NextAt.mk (fun hc => ?_) (fun pre n v post hc hkey => ?_) | refine Sni.mk (fun hc => ?_) ?_ | refine Both.mk ?_ ?_ | refine AW_seq ?_ | refine AW_block ?_ | ((first | refine AW_reg ?_ | refine AW_cond ?_ | refine AW_skip ?_ | refine AW_exit ?_ | refine AW_ret ?_ | refine AW_regD (by kernel_rfl) ?_ | refine AW_regX (by kernel_rfl) ?_ | refine CallAtG.t (Eq.refl true) ?_ | refine CallAtG.f (Eq.refl false) ?_); try simp (disch := omega) only [go_sem, seval, reduceCtorEq, ↓reduceIte, beq_dec, Int.toNat_natCast, IntKind.signed, IntKind.bits]) | refine And.intro (fun hc => (?_ : AW _ _ _ _)) (fun hc => (?_ : AW _ _ _ _)) | simp (disch := omega) only [go_sem, seval, reduceCtorEq, ↓reduceIte, beq_dec, Int.toNat_natCast, IntKind.signed, IntKind.bits] | (refine And.intro ?_ ?_; focus (first | (intros; omega) | (intros; simp_all; done))) | refine And.intro (?_ : CallAt _ _ _ _ _ _ _ _) ?_ | refine And.intro (?_ : CallAt _ _ _ _ _ _ _ _ ∧ _) ?_ | refine And.intro (?_ : AW _ _ _ _) ?_ | fail))
                    refine .mk (i + 1) (by omega) (by omega) ?_
                    rw [hM']
                    simp (disch := omega) only [go_sem, seval, reduceCtorEq, ↓reduceIte, beq_dec, Int.toNat_natCast, IntKind.signed, IntKind.bits, Int.natCast_add, Int.natCast_one]
                  · obtain rfl : i = T.length := by omega
                    have hik : ((T.length : Int) < (T.length : Int)) = False := eq_false (by omega)
                    rw [hmn]
                    (repeat' (first | (with_reducible refine hold77 ?_; try simp (disch := omega) only [go_sem, seval, reduceCtorEq, ↓reduceIte, beq_dec, Int.toNat_natCast, IntKind.signed, IntKind.bits, hik]) | refine NextAt.mk (fun hc => ?_) (fun pre n v post hc hkey => ?_) | refine Sni.mk (fun hc => ?_) ?_ | refine Both.mk ?_ ?_ | refine AW_seq ?_ | refine AW_block ?_ | ((first | refine AW_reg ?_ | refine AW_cond ?_ | refine AW_skip ?_ | refine AW_exit ?_ | refine AW_ret ?_ | refine AW_regD (by kernel_rfl) ?_ | refine AW_regX (by kernel_rfl) ?_ | refine CallAtG.t (Eq.refl true) ?_ | refine CallAtG.f (Eq.refl false) ?_); try simp (disch := omega) only [go_sem, seval, reduceCtorEq, ↓reduceIte, beq_dec, Int.toNat_natCast, IntKind.signed, IntKind.bits, hik]) | refine And.intro (fun hc => (?_ : AW _ _ _ _)) (fun hc => (?_ : AW _ _ _ _)) | simp (disch := omega) only [go_sem, seval, reduceCtorEq, ↓reduceIte, beq_dec, Int.toNat_natCast, IntKind.signed, IntKind.bits, hik] | (refine And.intro ?_ ?_; focus (first | (intros; omega) | (intros; simp_all; done))) | refine And.intro (?_ : CallAt _ _ _ _ _ _ _ _) ?_ | refine And.intro (?_ : CallAt _ _ _ _ _ _ _ _ ∧ _) ?_ | refine And.intro (?_ : AW _ _ _ _) ?_ | fail))
                    refine ⟨AW_frzR 75 (by rfl) ?_⟩
                    rw [rowsCD_rR]
                    simp (disch := omega) only [go_sem, seval, reduceCtorEq, ↓reduceIte, beq_dec, Int.toNat_natCast, IntKind.signed, IntKind.bits, St.frzR]
                    (repeat' (first | refine NextAt.mk (fun hc => ?_) (fun pre n v post hc hkey => ?_) | refine Sni.mk (fun hc => ?_) ?_ | refine Both.mk ?_ ?_ | refine AW_seq ?_ | refine AW_block ?_ | ((first | refine AW_reg ?_ | refine AW_cond ?_ | refine AW_skip ?_ | refine AW_exit ?_ | refine AW_ret ?_ | refine AW_regD (by kernel_rfl) ?_ | refine AW_regX (by kernel_rfl) ?_ | refine CallAtG.t (Eq.refl true) ?_ | refine CallAtG.f (Eq.refl false) ?_); try simp (disch := omega) only [go_sem, seval, reduceCtorEq, ↓reduceIte, beq_dec, Int.toNat_natCast, IntKind.signed, IntKind.bits, List.length_map]) | refine And.intro (fun hc => (?_ : AW _ _ _ _)) (fun hc => (?_ : AW _ _ _ _)) | simp (disch := omega) only [go_sem, seval, reduceCtorEq, ↓reduceIte, beq_dec, Int.toNat_natCast, IntKind.signed, IntKind.bits, List.length_map] | (refine And.intro ?_ ?_; focus (first | (intros; omega) | (intros; simp_all; done))) | refine And.intro (?_ : CallAt _ _ _ _ _ _ _ _) ?_ | refine And.intro (?_ : CallAt _ _ _ _ _ _ _ _ ∧ _) ?_ | refine And.intro (?_ : AW _ _ _ _) ?_ | fail))
end Go.Proofs.Ytddhinbiahcjlaa

