/-
  Lemmas for the proof: no statement of its own.
-/
import Derived.Test.YtgldpbghbkoolaaWalkA
import Derived.Test.YtgldpbghbkoolaaLayA
import Derived.Test.YtgldpbghbkoolaaCutA
import Derived.Lib.SlicesCompact
set_option linter.unusedVariables false
set_option linter.unusedSimpArgs false
-- P p_15.txt
open Go Go.AL Go.RowKit
namespace Go.Proofs.Ytgldpbghbkoolaa
set_option maxRecDepth 20000

/-! ### sorted, without repetitions -/
abbrev srt (o : List Int) : List Int := o.mergeSort fun x y => decide (x ≤ y)
theorem srt_perm (o : List Int) : (srt o).Perm o := List.mergeSort_perm o _
theorem srt_le (o : List Int) : (srt o).Pairwise (· ≤ ·) := by
  have h1 : (srt o).Pairwise (fun x y => decide (x ≤ y) = true) := List.pairwise_mergeSort (by simp; omega) (by simp; omega) o
  exact h1.imp fun h => by simpa using h
theorem srt_len (o : List Int) : (srt o).length = o.length := (srt_perm o).length_eq
theorem arr_get (z : List Int) (i : Nat) (h : i < z.length) : z.toArray[i]! = z[i] := by simp [h]
theorem compact_pw {z : List Int} (h : z.Pairwise (· ≤ ·)) : (Lib.compact z).Pairwise (· < ·) := by
  unfold Lib.compact Lib.compactUpTo
  rw [List.pairwise_map]
  refine List.Pairwise.imp_of_mem ?_ (List.pairwise_lt_range.filter _)
  intro i j hi hj hij
  simp only [List.mem_filter, List.mem_range, Lib.keeps, decide_eq_true_eq] at hi hj
  have hj1 : j < z.length := hj.1
  have hk := hj.2.resolve_left (by omega)
  rw [arr_get z i hi.1, arr_get z j hj1]
  rw [arr_get z j hj1, arr_get z (j - 1) (by omega)] at hk
  have h1 := List.pairwise_iff_getElem.1 h (j - 1) j (by omega) hj.1 (by omega)
  rcases Nat.lt_or_ge i (j - 1) with h' | h'
  · have h2 := List.pairwise_iff_getElem.1 h i (j - 1) hi.1 (by omega) h'
    omega
  · have : i = j - 1 := by omega
    subst this
    omega
theorem compact_mem {z : List Int} {x : Int} : x ∈ Lib.compact z ↔ x ∈ z := by
  unfold Lib.compact Lib.compactUpTo
  simp only [List.mem_map, List.mem_filter, List.mem_range, Lib.keeps, decide_eq_true_eq]
  constructor
  · rintro ⟨i, hi, rfl⟩
    rw [arr_get z i hi.1]
    exact List.getElem_mem _
  · intro hx
    have key : ∀ k, k < z.length → ∀ (_ : z[k]? = some x), ∃ i, (i < z.length ∧ (i = 0 ∨ z.toArray[i]! ≠ z.toArray[i - 1]!)) ∧ z.toArray[i]! = x := by
      intro k
      induction k with
      | zero =>
        intro h0 e
        refine ⟨0, ⟨h0, .inl rfl⟩, ?_⟩
        rw [arr_get z 0 h0]
        rw [List.getElem?_eq_getElem h0] at e
        simpa using e
      | succ k ih =>
        intro hk e
        have e' : z[k + 1] = x := by rw [List.getElem?_eq_getElem hk] at e; simpa using e
        by_cases hp : z[k] = x
        · exact ih (by omega) (by rw [List.getElem?_eq_getElem (by omega), hp])
        · refine ⟨k + 1, ⟨hk, .inr ?_⟩, ?_⟩
          · rw [arr_get z (k + 1) hk, arr_get z (k + 1 - 1) (by omega)]
            simp only [Nat.add_sub_cancel]
            rw [e']; exact fun h => hp h.symm
          · rw [arr_get z (k + 1) hk]; exact e'
    obtain ⟨k, hk, e⟩ := List.getElem_of_mem hx
    exact key k hk (by rw [List.getElem?_eq_getElem hk, e])
theorem compact_len (l : List Int) : (Lib.compact l).length ≤ l.length := by
  unfold Lib.compact Lib.compactUpTo
  rw [List.length_map]
  exact Nat.le_trans (List.length_filter_le _ _) (by simp)
/-- the numbers that occur, ascending -/
def cs (l : List Int) : List Int := Lib.compact (srt l)
theorem cs_pw (l : List Int) : (cs l).Pairwise (· < ·) := compact_pw (srt_le _)
theorem cs_mem {l : List Int} {x : Int} : x ∈ cs l ↔ x ∈ l := by unfold cs; rw [compact_mem, (srt_perm _).mem_iff]
theorem f63 (id : Nat) (l : List Int) (hl : l.length ≤ 1000000) : FnW Try.prog 61 [.own id] [(id, .arr 3 1 (iRow l))] [] [(id, .arr 3 1 (iRow (srt l)))] [id] := by
  refine FnW_inplace id (by kernel_rfl) (srt_len l) (fun h x hx => h x ((srt_perm l).mem_iff.1 hx)) (fun g o cap w hH hcap hm hg => ?_) (fun h w => Try.slices_Sort_int_none none 0 w)
  refine (Try.slices_Sort_int g o cap l w hH hg (by omega)).mono ?_
  rintro E w' ⟨rfl, n, os, rfl⟩
  exact ⟨rfl, n, os, rfl⟩
theorem f64 (id : Nat) (l : List Int) (hl : l.length ≤ 1000000) : FnW Try.prog 62 [.own id] [(id, .arr 3 1 (iRow l))] [.own 3 1 (iRow (Lib.compact l))] [] [] := by
  refine FnW_cut id (by kernel_rfl) (fun h x hx => h x (compact_mem.1 hx)) (fun g o cap w vs hH hcap hm hg hv _ => ?_) (fun h w vs hv _ => ?_)
  · obtain rfl : vs = [] := List.eq_nil_of_length_eq_zero (by simpa using hv)
    refine (Try.slices_Compact_int g o cap l w hH (by omega) hcap).mono ?_
    rintro E w' ⟨rfl, q, rfl⟩
    have := compact_len l
    exact ⟨rfl, Lib.compact l ++ List.replicate (l.length - (Lib.compact l).length) 0, q, #[], by simp; omega, ⟨_, rfl⟩, by simp⟩
  · obtain rfl : vs = [] := List.eq_nil_of_length_eq_zero (by simpa using hv)
    subst h
    refine ⟨rfl, (Try.slices_Compact_int_empty none 0 w).mono ?_⟩
    rintro E w' ⟨rfl, rfl⟩
    exact ⟨rfl, rfl⟩
def wtT9 (ls : List Lk) (l : Lk) (i : Int) (xs ys : List Int) : St := ⟨44, [(2, .ptr 2 0), (3, .ptr 3 0), (5, .ptr 5 0), (8, .c (LL ls)), (9, .I ls.length), (10, .I i), (15, .own 900), (17, .I l.obv), (20, .ptr 3 1), (22, .ptr 5 2)], [(2, .box 25 [.c .nil, .c .nil, .c .nil]), (3, .box 25 [.own 900, .own 901, .c (LL ls)]), (5, .box 44 [.I l.id, .I l.obv, .I l.rev]), (900, .arr 3 1 (iRow xs)), (901, .arr 3 1 (iRow ys))]⟩
def wtT10 (ls : List Lk) (l : Lk) (i : Int) (xs ys : List Int) : St := ⟨44, [(2, .ptr 2 0), (3, .ptr 3 0), (5, .ptr 5 0), (8, .c (LL ls)), (9, .I ls.length), (10, .I i), (15, .own 900), (16, .ptr 5 1), (21, .own 901), (22, .ptr 5 2)], [(2, .box 25 [.c .nil, .c .nil, .c .nil]), (3, .box 25 [.own 900, .own 901, .c (LL ls)]), (5, .box 44 [.I l.id, .I l.obv, .I l.rev]), (900, .arr 3 1 (iRow xs)), (901, .arr 3 1 (iRow ys))]⟩
def wtT11 (ls : List Lk) (l : Lk) (i : Int) (xs ys : List Int) : St := ⟨44, [(2, .ptr 2 0), (3, .ptr 3 0), (5, .ptr 5 0), (8, .c (LL ls)), (9, .I ls.length), (10, .I i), (15, .own 900), (16, .ptr 5 1), (20, .ptr 3 1), (23, .I l.rev)], [(2, .box 25 [.c .nil, .c .nil, .c .nil]), (3, .box 25 [.own 900, .own 901, .c (LL ls)]), (5, .box 44 [.I l.id, .I l.obv, .I l.rev]), (900, .arr 3 1 (iRow xs)), (901, .arr 3 1 (iRow ys))]⟩
def wtT13 (ls : List Lk) (l : Lk) (i : Int) (xs ys : List Int) : St := ⟨44, [(2, .ptr 2 0), (3, .ptr 3 0), (5, .ptr 5 0), (8, .c (LL ls)), (9, .I ls.length), (10, .I i), (14, .ptr 3 0), (17, .I l.obv), (21, .own 901), (22, .ptr 5 2)], [(2, .box 25 [.c .nil, .c .nil, .c .nil]), (3, .box 25 [.own 900, .own 901, .c (LL ls)]), (5, .box 44 [.I l.id, .I l.obv, .I l.rev]), (900, .arr 3 1 (iRow xs)), (901, .arr 3 1 (iRow ys))]⟩
def wtT14 (ls : List Lk) (l : Lk) (i : Int) (xs ys : List Int) : St := ⟨44, [(2, .ptr 2 0), (3, .ptr 3 0), (5, .ptr 5 0), (8, .c (LL ls)), (9, .I ls.length), (10, .I i), (14, .ptr 3 0), (17, .I l.obv), (20, .ptr 3 1), (23, .I l.rev)], [(2, .box 25 [.c .nil, .c .nil, .c .nil]), (3, .box 25 [.own 900, .own 901, .c (LL ls)]), (5, .box 44 [.I l.id, .I l.obv, .I l.rev]), (900, .arr 3 1 (iRow xs)), (901, .arr 3 1 (iRow ys))]⟩
def wtT15 (ls : List Lk) (l : Lk) (i : Int) (xs ys : List Int) : St := ⟨44, [(2, .ptr 2 0), (3, .ptr 3 0), (5, .ptr 5 0), (8, .c (LL ls)), (9, .I ls.length), (10, .I i), (14, .ptr 3 0), (16, .ptr 5 1), (21, .own 901), (23, .I l.rev)], [(2, .box 25 [.c .nil, .c .nil, .c .nil]), (3, .box 25 [.own 900, .own 901, .c (LL ls)]), (5, .box 44 [.I l.id, .I l.obv, .I l.rev]), (900, .arr 3 1 (iRow xs)), (901, .arr 3 1 (iRow ys))]⟩
def wtT17 (ls : List Lk) (l : Lk) (i : Int) (xs ys : List Int) : St := ⟨44, [(2, .ptr 2 0), (3, .ptr 3 0), (5, .ptr 5 0), (8, .c (LL ls)), (9, .I ls.length), (10, .I i), (15, .own 900), (18, .own 18), (20, .ptr 3 1), (22, .ptr 5 2)], [(2, .box 25 [.c .nil, .c .nil, .c .nil]), (3, .box 25 [.own 900, .own 901, .c (LL ls)]), (5, .box 44 [.I l.id, .I l.obv, .I l.rev]), (900, .arr 3 1 (iRow xs)), (901, .arr 3 1 (iRow ys)), (18, .arr 3 1 [[.I l.obv]])]⟩
def wtT18 (ls : List Lk) (l : Lk) (i : Int) (xs ys : List Int) : St := ⟨44, [(2, .ptr 2 0), (3, .ptr 3 0), (5, .ptr 5 0), (8, .c (LL ls)), (9, .I ls.length), (10, .I i), (15, .own 900), (17, .I l.obv), (21, .own 901), (22, .ptr 5 2)], [(2, .box 25 [.c .nil, .c .nil, .c .nil]), (3, .box 25 [.own 900, .own 901, .c (LL ls)]), (5, .box 44 [.I l.id, .I l.obv, .I l.rev]), (900, .arr 3 1 (iRow xs)), (901, .arr 3 1 (iRow ys))]⟩
def wtT19 (ls : List Lk) (l : Lk) (i : Int) (xs ys : List Int) : St := ⟨44, [(2, .ptr 2 0), (3, .ptr 3 0), (5, .ptr 5 0), (8, .c (LL ls)), (9, .I ls.length), (10, .I i), (15, .own 900), (17, .I l.obv), (20, .ptr 3 1), (23, .I l.rev)], [(2, .box 25 [.c .nil, .c .nil, .c .nil]), (3, .box 25 [.own 900, .own 901, .c (LL ls)]), (5, .box 44 [.I l.id, .I l.obv, .I l.rev]), (900, .arr 3 1 (iRow xs)), (901, .arr 3 1 (iRow ys))]⟩
def wtT20 (ls : List Lk) (l : Lk) (i : Int) (xs ys : List Int) : St := ⟨44, [(2, .ptr 2 0), (3, .ptr 3 0), (5, .ptr 5 0), (8, .c (LL ls)), (9, .I ls.length), (10, .I i), (15, .own 900), (16, .ptr 5 1), (21, .own 901), (23, .I l.rev)], [(2, .box 25 [.c .nil, .c .nil, .c .nil]), (3, .box 25 [.own 900, .own 901, .c (LL ls)]), (5, .box 44 [.I l.id, .I l.obv, .I l.rev]), (900, .arr 3 1 (iRow xs)), (901, .arr 3 1 (iRow ys))]⟩
def wtT21 (ls : List Lk) (l : Lk) (i : Int) (xs ys : List Int) : St := ⟨44, [(2, .ptr 2 0), (3, .ptr 3 0), (5, .ptr 5 0), (8, .c (LL ls)), (9, .I ls.length), (10, .I i), (15, .own 900), (16, .ptr 5 1), (20, .ptr 3 1), (24, .own 24)], [(2, .box 25 [.c .nil, .c .nil, .c .nil]), (3, .box 25 [.own 900, .own 901, .c (LL ls)]), (5, .box 44 [.I l.id, .I l.obv, .I l.rev]), (900, .arr 3 1 (iRow xs)), (901, .arr 3 1 (iRow ys)), (24, .arr 3 1 [[.I l.rev]])]⟩
def wtT22 (ls : List Lk) (l : Lk) (i : Int) (xs ys : List Int) : St := ⟨44, [(2, .ptr 2 0), (3, .ptr 3 0), (5, .ptr 5 0), (8, .c (LL ls)), (9, .I ls.length), (10, .I i), (14, .ptr 3 0), (18, .own 18), (21, .own 901), (22, .ptr 5 2)], [(2, .box 25 [.c .nil, .c .nil, .c .nil]), (3, .box 25 [.own 900, .own 901, .c (LL ls)]), (5, .box 44 [.I l.id, .I l.obv, .I l.rev]), (900, .arr 3 1 (iRow xs)), (901, .arr 3 1 (iRow ys)), (18, .arr 3 1 [[.I l.obv]])]⟩
def wtT23 (ls : List Lk) (l : Lk) (i : Int) (xs ys : List Int) : St := ⟨44, [(2, .ptr 2 0), (3, .ptr 3 0), (5, .ptr 5 0), (8, .c (LL ls)), (9, .I ls.length), (10, .I i), (14, .ptr 3 0), (18, .own 18), (20, .ptr 3 1), (23, .I l.rev)], [(2, .box 25 [.c .nil, .c .nil, .c .nil]), (3, .box 25 [.own 900, .own 901, .c (LL ls)]), (5, .box 44 [.I l.id, .I l.obv, .I l.rev]), (900, .arr 3 1 (iRow xs)), (901, .arr 3 1 (iRow ys)), (18, .arr 3 1 [[.I l.obv]])]⟩
def wtT24 (ls : List Lk) (l : Lk) (i : Int) (xs ys : List Int) : St := ⟨44, [(2, .ptr 2 0), (3, .ptr 3 0), (5, .ptr 5 0), (8, .c (LL ls)), (9, .I ls.length), (10, .I i), (14, .ptr 3 0), (17, .I l.obv), (21, .own 901), (23, .I l.rev)], [(2, .box 25 [.c .nil, .c .nil, .c .nil]), (3, .box 25 [.own 900, .own 901, .c (LL ls)]), (5, .box 44 [.I l.id, .I l.obv, .I l.rev]), (900, .arr 3 1 (iRow xs)), (901, .arr 3 1 (iRow ys))]⟩
def wtT25 (ls : List Lk) (l : Lk) (i : Int) (xs ys : List Int) : St := ⟨44, [(2, .ptr 2 0), (3, .ptr 3 0), (5, .ptr 5 0), (8, .c (LL ls)), (9, .I ls.length), (10, .I i), (14, .ptr 3 0), (17, .I l.obv), (20, .ptr 3 1), (24, .own 24)], [(2, .box 25 [.c .nil, .c .nil, .c .nil]), (3, .box 25 [.own 900, .own 901, .c (LL ls)]), (5, .box 44 [.I l.id, .I l.obv, .I l.rev]), (900, .arr 3 1 (iRow xs)), (901, .arr 3 1 (iRow ys)), (24, .arr 3 1 [[.I l.rev]])]⟩
def wtT26 (ls : List Lk) (l : Lk) (i : Int) (xs ys : List Int) : St := ⟨44, [(2, .ptr 2 0), (3, .ptr 3 0), (5, .ptr 5 0), (8, .c (LL ls)), (9, .I ls.length), (10, .I i), (14, .ptr 3 0), (16, .ptr 5 1), (21, .own 901), (24, .own 24)], [(2, .box 25 [.c .nil, .c .nil, .c .nil]), (3, .box 25 [.own 900, .own 901, .c (LL ls)]), (5, .box 44 [.I l.id, .I l.obv, .I l.rev]), (900, .arr 3 1 (iRow xs)), (901, .arr 3 1 (iRow ys)), (24, .arr 3 1 [[.I l.rev]])]⟩
def wtT28 (ls : List Lk) (l : Lk) (i : Int) (xs ys : List Int) : St := ⟨44, [(2, .ptr 2 0), (3, .ptr 3 0), (5, .ptr 5 0), (8, .c (LL ls)), (9, .I ls.length), (10, .I i), (15, .own 900), (18, .own 18), (21, .own 901), (22, .ptr 5 2)], [(2, .box 25 [.c .nil, .c .nil, .c .nil]), (3, .box 25 [.own 900, .own 901, .c (LL ls)]), (5, .box 44 [.I l.id, .I l.obv, .I l.rev]), (900, .arr 3 1 (iRow xs)), (901, .arr 3 1 (iRow ys)), (18, .arr 3 1 [[.I l.obv]])]⟩
def wtT29 (ls : List Lk) (l : Lk) (i : Int) (xs ys : List Int) : St := ⟨44, [(2, .ptr 2 0), (3, .ptr 3 0), (5, .ptr 5 0), (8, .c (LL ls)), (9, .I ls.length), (10, .I i), (15, .own 900), (18, .own 18), (20, .ptr 3 1), (23, .I l.rev)], [(2, .box 25 [.c .nil, .c .nil, .c .nil]), (3, .box 25 [.own 900, .own 901, .c (LL ls)]), (5, .box 44 [.I l.id, .I l.obv, .I l.rev]), (900, .arr 3 1 (iRow xs)), (901, .arr 3 1 (iRow ys)), (18, .arr 3 1 [[.I l.obv]])]⟩
def wtT30 (ls : List Lk) (l : Lk) (i : Int) (xs ys : List Int) : St := ⟨44, [(2, .ptr 2 0), (3, .ptr 3 0), (5, .ptr 5 0), (8, .c (LL ls)), (9, .I ls.length), (10, .I i), (15, .own 900), (17, .I l.obv), (21, .own 901), (23, .I l.rev)], [(2, .box 25 [.c .nil, .c .nil, .c .nil]), (3, .box 25 [.own 900, .own 901, .c (LL ls)]), (5, .box 44 [.I l.id, .I l.obv, .I l.rev]), (900, .arr 3 1 (iRow xs)), (901, .arr 3 1 (iRow ys))]⟩
def wtT31 (ls : List Lk) (l : Lk) (i : Int) (xs ys : List Int) : St := ⟨44, [(2, .ptr 2 0), (3, .ptr 3 0), (5, .ptr 5 0), (8, .c (LL ls)), (9, .I ls.length), (10, .I i), (15, .own 900), (17, .I l.obv), (20, .ptr 3 1), (24, .own 24)], [(2, .box 25 [.c .nil, .c .nil, .c .nil]), (3, .box 25 [.own 900, .own 901, .c (LL ls)]), (5, .box 44 [.I l.id, .I l.obv, .I l.rev]), (900, .arr 3 1 (iRow xs)), (901, .arr 3 1 (iRow ys)), (24, .arr 3 1 [[.I l.rev]])]⟩
def wtT32 (ls : List Lk) (l : Lk) (i : Int) (xs ys : List Int) : St := ⟨44, [(2, .ptr 2 0), (3, .ptr 3 0), (5, .ptr 5 0), (8, .c (LL ls)), (9, .I ls.length), (10, .I i), (15, .own 900), (16, .ptr 5 1), (21, .own 901), (24, .own 24)], [(2, .box 25 [.c .nil, .c .nil, .c .nil]), (3, .box 25 [.own 900, .own 901, .c (LL ls)]), (5, .box 44 [.I l.id, .I l.obv, .I l.rev]), (900, .arr 3 1 (iRow xs)), (901, .arr 3 1 (iRow ys)), (24, .arr 3 1 [[.I l.rev]])]⟩
def wtT33 (ls : List Lk) (l : Lk) (i : Int) (xs ys : List Int) : St := ⟨44, [(2, .ptr 2 0), (3, .ptr 3 0), (5, .ptr 5 0), (8, .c (LL ls)), (9, .I ls.length), (10, .I i), (14, .ptr 3 0), (18, .own 18), (21, .own 901), (23, .I l.rev)], [(2, .box 25 [.c .nil, .c .nil, .c .nil]), (3, .box 25 [.own 900, .own 901, .c (LL ls)]), (5, .box 44 [.I l.id, .I l.obv, .I l.rev]), (900, .arr 3 1 (iRow xs)), (901, .arr 3 1 (iRow ys)), (18, .arr 3 1 [[.I l.obv]])]⟩
def wtT34 (ls : List Lk) (l : Lk) (i : Int) (xs ys : List Int) : St := ⟨44, [(2, .ptr 2 0), (3, .ptr 3 0), (5, .ptr 5 0), (8, .c (LL ls)), (9, .I ls.length), (10, .I i), (14, .ptr 3 0), (18, .own 18), (20, .ptr 3 1), (24, .own 24)], [(2, .box 25 [.c .nil, .c .nil, .c .nil]), (3, .box 25 [.own 900, .own 901, .c (LL ls)]), (5, .box 44 [.I l.id, .I l.obv, .I l.rev]), (900, .arr 3 1 (iRow xs)), (901, .arr 3 1 (iRow ys)), (18, .arr 3 1 [[.I l.obv]]), (24, .arr 3 1 [[.I l.rev]])]⟩
def wtT35 (ls : List Lk) (l : Lk) (i : Int) (xs ys : List Int) : St := ⟨44, [(2, .ptr 2 0), (3, .ptr 3 0), (5, .ptr 5 0), (8, .c (LL ls)), (9, .I ls.length), (10, .I i), (14, .ptr 3 0), (17, .I l.obv), (21, .own 901), (24, .own 24)], [(2, .box 25 [.c .nil, .c .nil, .c .nil]), (3, .box 25 [.own 900, .own 901, .c (LL ls)]), (5, .box 44 [.I l.id, .I l.obv, .I l.rev]), (900, .arr 3 1 (iRow xs)), (901, .arr 3 1 (iRow ys)), (24, .arr 3 1 [[.I l.rev]])]⟩
def wtT36 (ls : List Lk) (l : Lk) (i : Int) (xs ys : List Int) : St := ⟨44, [(2, .ptr 2 0), (3, .ptr 3 0), (5, .ptr 5 0), (8, .c (LL ls)), (9, .I ls.length), (10, .I i), (19, .own 900), (21, .own 901), (22, .ptr 5 2)], [(2, .box 25 [.c .nil, .c .nil, .c .nil]), (3, .box 25 [.any, .own 901, .c (LL ls)]), (5, .box 44 [.I l.id, .I l.obv, .I l.rev]), (900, .arr 3 1 (iRow xs ++ [[.I l.obv]])), (901, .arr 3 1 (iRow ys)), (18, .arr 3 1 [[.I l.obv]])]⟩
def wtT37 (ls : List Lk) (l : Lk) (i : Int) (xs ys : List Int) : St := ⟨44, [(2, .ptr 2 0), (3, .ptr 3 0), (5, .ptr 5 0), (8, .c (LL ls)), (9, .I ls.length), (10, .I i), (19, .own 900), (20, .ptr 3 1), (23, .I l.rev)], [(2, .box 25 [.c .nil, .c .nil, .c .nil]), (3, .box 25 [.any, .own 901, .c (LL ls)]), (5, .box 44 [.I l.id, .I l.obv, .I l.rev]), (900, .arr 3 1 (iRow xs ++ [[.I l.obv]])), (901, .arr 3 1 (iRow ys)), (18, .arr 3 1 [[.I l.obv]])]⟩
def wtT38 (ls : List Lk) (l : Lk) (i : Int) (xs ys : List Int) : St := ⟨44, [(2, .ptr 2 0), (3, .ptr 3 0), (5, .ptr 5 0), (8, .c (LL ls)), (9, .I ls.length), (10, .I i), (15, .own 900), (18, .own 18), (21, .own 901), (23, .I l.rev)], [(2, .box 25 [.c .nil, .c .nil, .c .nil]), (3, .box 25 [.own 900, .own 901, .c (LL ls)]), (5, .box 44 [.I l.id, .I l.obv, .I l.rev]), (900, .arr 3 1 (iRow xs)), (901, .arr 3 1 (iRow ys)), (18, .arr 3 1 [[.I l.obv]])]⟩
def wtT39 (ls : List Lk) (l : Lk) (i : Int) (xs ys : List Int) : St := ⟨44, [(2, .ptr 2 0), (3, .ptr 3 0), (5, .ptr 5 0), (8, .c (LL ls)), (9, .I ls.length), (10, .I i), (15, .own 900), (18, .own 18), (20, .ptr 3 1), (24, .own 24)], [(2, .box 25 [.c .nil, .c .nil, .c .nil]), (3, .box 25 [.own 900, .own 901, .c (LL ls)]), (5, .box 44 [.I l.id, .I l.obv, .I l.rev]), (900, .arr 3 1 (iRow xs)), (901, .arr 3 1 (iRow ys)), (18, .arr 3 1 [[.I l.obv]]), (24, .arr 3 1 [[.I l.rev]])]⟩
def wtT40 (ls : List Lk) (l : Lk) (i : Int) (xs ys : List Int) : St := ⟨44, [(2, .ptr 2 0), (3, .ptr 3 0), (5, .ptr 5 0), (8, .c (LL ls)), (9, .I ls.length), (10, .I i), (15, .own 900), (17, .I l.obv), (21, .own 901), (24, .own 24)], [(2, .box 25 [.c .nil, .c .nil, .c .nil]), (3, .box 25 [.own 900, .own 901, .c (LL ls)]), (5, .box 44 [.I l.id, .I l.obv, .I l.rev]), (900, .arr 3 1 (iRow xs)), (901, .arr 3 1 (iRow ys)), (24, .arr 3 1 [[.I l.rev]])]⟩
def wtT41 (ls : List Lk) (l : Lk) (i : Int) (xs ys : List Int) : St := ⟨44, [(2, .ptr 2 0), (3, .ptr 3 0), (5, .ptr 5 0), (8, .c (LL ls)), (9, .I ls.length), (10, .I i), (14, .ptr 3 0), (18, .own 18), (21, .own 901), (24, .own 24)], [(2, .box 25 [.c .nil, .c .nil, .c .nil]), (3, .box 25 [.own 900, .own 901, .c (LL ls)]), (5, .box 44 [.I l.id, .I l.obv, .I l.rev]), (900, .arr 3 1 (iRow xs)), (901, .arr 3 1 (iRow ys)), (18, .arr 3 1 [[.I l.obv]]), (24, .arr 3 1 [[.I l.rev]])]⟩
def wtT43 (ls : List Lk) (l : Lk) (i : Int) (xs ys : List Int) : St := ⟨44, [(2, .ptr 2 0), (3, .ptr 3 0), (5, .ptr 5 0), (8, .c (LL ls)), (9, .I ls.length), (10, .I i), (19, .own 900), (21, .own 901), (23, .I l.rev)], [(2, .box 25 [.c .nil, .c .nil, .c .nil]), (3, .box 25 [.any, .own 901, .c (LL ls)]), (5, .box 44 [.I l.id, .I l.obv, .I l.rev]), (900, .arr 3 1 (iRow xs ++ [[.I l.obv]])), (901, .arr 3 1 (iRow ys)), (18, .arr 3 1 [[.I l.obv]])]⟩
def wtT44 (ls : List Lk) (l : Lk) (i : Int) (xs ys : List Int) : St := ⟨44, [(2, .ptr 2 0), (3, .ptr 3 0), (5, .ptr 5 0), (8, .c (LL ls)), (9, .I ls.length), (10, .I i), (19, .own 900), (20, .ptr 3 1), (24, .own 24)], [(2, .box 25 [.c .nil, .c .nil, .c .nil]), (3, .box 25 [.any, .own 901, .c (LL ls)]), (5, .box 44 [.I l.id, .I l.obv, .I l.rev]), (900, .arr 3 1 (iRow xs ++ [[.I l.obv]])), (901, .arr 3 1 (iRow ys)), (18, .arr 3 1 [[.I l.obv]]), (24, .arr 3 1 [[.I l.rev]])]⟩
def wtT45 (ls : List Lk) (l : Lk) (i : Int) (xs ys : List Int) : St := ⟨44, [(2, .ptr 2 0), (3, .ptr 3 0), (5, .ptr 5 0), (8, .c (LL ls)), (9, .I ls.length), (10, .I i), (15, .own 900), (18, .own 18), (21, .own 901), (24, .own 24)], [(2, .box 25 [.c .nil, .c .nil, .c .nil]), (3, .box 25 [.own 900, .own 901, .c (LL ls)]), (5, .box 44 [.I l.id, .I l.obv, .I l.rev]), (900, .arr 3 1 (iRow xs)), (901, .arr 3 1 (iRow ys)), (18, .arr 3 1 [[.I l.obv]]), (24, .arr 3 1 [[.I l.rev]])]⟩
def wtT46 (ls : List Lk) (l : Lk) (i : Int) (xs ys : List Int) : St := ⟨44, [(2, .ptr 2 0), (3, .ptr 3 0), (5, .ptr 5 0), (8, .c (LL ls)), (9, .I ls.length), (10, .I i), (19, .own 900), (21, .own 901), (23, .I l.rev), (26, .ptr 3 0)], [(2, .box 25 [.c .nil, .c .nil, .c .nil]), (3, .box 25 [.any, .own 901, .c (LL ls)]), (5, .box 44 [.I l.id, .I l.obv, .I l.rev]), (900, .arr 3 1 (iRow xs ++ [[.I l.obv]])), (901, .arr 3 1 (iRow ys)), (18, .arr 3 1 [[.I l.obv]])]⟩
def wtT47 (ls : List Lk) (l : Lk) (i : Int) (xs ys : List Int) : St := ⟨44, [(2, .ptr 2 0), (3, .ptr 3 0), (5, .ptr 5 0), (8, .c (LL ls)), (9, .I ls.length), (10, .I i), (19, .own 900), (21, .own 901), (24, .own 24)], [(2, .box 25 [.c .nil, .c .nil, .c .nil]), (3, .box 25 [.any, .own 901, .c (LL ls)]), (5, .box 44 [.I l.id, .I l.obv, .I l.rev]), (900, .arr 3 1 (iRow xs ++ [[.I l.obv]])), (901, .arr 3 1 (iRow ys)), (18, .arr 3 1 [[.I l.obv]]), (24, .arr 3 1 [[.I l.rev]])]⟩
def wtT48 (ls : List Lk) (l : Lk) (i : Int) (xs ys : List Int) : St := ⟨44, [(2, .ptr 2 0), (3, .ptr 3 0), (5, .ptr 5 0), (8, .c (LL ls)), (9, .I ls.length), (10, .I i), (19, .own 900), (21, .own 901), (24, .own 24), (26, .ptr 3 0)], [(2, .box 25 [.c .nil, .c .nil, .c .nil]), (3, .box 25 [.any, .own 901, .c (LL ls)]), (5, .box 44 [.I l.id, .I l.obv, .I l.rev]), (900, .arr 3 1 (iRow xs ++ [[.I l.obv]])), (901, .arr 3 1 (iRow ys)), (18, .arr 3 1 [[.I l.obv]]), (24, .arr 3 1 [[.I l.rev]])]⟩
def wtT (ls : List Lk) (l : Lk) (i : Int) (xs ys : List Int) : List (Nat × St) := [(9, wtT9 ls l i xs ys), (10, wtT10 ls l i xs ys), (11, wtT11 ls l i xs ys), (13, wtT13 ls l i xs ys), (14, wtT14 ls l i xs ys), (15, wtT15 ls l i xs ys), (17, wtT17 ls l i xs ys), (18, wtT18 ls l i xs ys), (19, wtT19 ls l i xs ys), (20, wtT20 ls l i xs ys), (21, wtT21 ls l i xs ys), (22, wtT22 ls l i xs ys), (23, wtT23 ls l i xs ys), (24, wtT24 ls l i xs ys), (25, wtT25 ls l i xs ys), (26, wtT26 ls l i xs ys), (28, wtT28 ls l i xs ys), (29, wtT29 ls l i xs ys), (30, wtT30 ls l i xs ys), (31, wtT31 ls l i xs ys), (32, wtT32 ls l i xs ys), (33, wtT33 ls l i xs ys), (34, wtT34 ls l i xs ys), (35, wtT35 ls l i xs ys), (36, wtT36 ls l i xs ys), (37, wtT37 ls l i xs ys), (38, wtT38 ls l i xs ys), (39, wtT39 ls l i xs ys), (40, wtT40 ls l i xs ys), (41, wtT41 ls l i xs ys), (43, wtT43 ls l i xs ys), (44, wtT44 ls l i xs ys), (45, wtT45 ls l i xs ys), (46, wtT46 ls l i xs ys), (47, wtT47 ls l i xs ys), (48, wtT48 ls l i xs ys)]
def wtTG : List GN := [.one 0 1, .one 2 2, .one 6 3, .one 8 4, .all [(1, 5), (3, 6), (7, 7), (9, 8)], .all [(3, 9), (7, 10), (9, 11)], .all [(1, 9), (4, 12), (7, 13), (9, 14)], .all [(1, 10), (3, 13), (9, 15)], .all [(1, 11), (3, 14), (7, 15), (10, 16)], .all [(4, 17), (7, 18), (9, 19)], .all [(3, 18), (9, 20)], .all [(3, 19), (7, 20), (10, 21)], .all [(1, 17), (7, 22), (9, 23)], .all [(1, 18), (4, 22), (9, 24)], .all [(1, 19), (4, 23), (7, 24), (10, 25)], .all [(1, 20), (3, 24), (10, 26)], .all [(1, 21), (3, 25), (7, 26)], .all [(5, 27), (7, 28), (9, 29)], .all [(4, 28), (9, 30)], .all [(4, 29), (7, 30), (10, 31)], .all [(3, 30), (10, 32)], .all [(3, 31), (7, 32)], .all [(1, 28), (9, 33)], .all [(1, 29), (7, 33), (10, 34)], .all [(1, 30), (4, 33), (10, 35)], .all [(1, 31), (4, 34), (7, 35)], .all [(1, 32), (3, 35)], .all [(7, 36), (9, 37)], .all [(5, 36), (9, 38)], .all [(5, 37), (7, 38), (10, 39)], .all [(4, 38), (10, 40)], .all [(4, 39), (7, 40)], .all [(3, 40)], .all [(1, 38), (10, 41)], .all [(1, 39), (7, 41)], .all [(1, 40), (4, 41)], .one 12 42, .all [(7, 43), (10, 44)], .all [(5, 43), (10, 45)], .all [(5, 44), (7, 45)], .all [(4, 45)], .all [(1, 45)], .all [(9, 46)], .one 12 46, .all [(7, 47)], .all [(5, 47)], .all [(10, 48)], .one 12 48, .all [(11, 49)], .all [(13, 50)], .one 14 51, .all [(15, 52)], .fin]
abbrev wtTM : List Nat := [0, 1, 5, 69, 325, 327, 333, 453, 837, 335, 455, 839, 349, 461, 845, 965, 1861, 351, 463, 847, 967, 1863, 477, 861, 973, 1869, 1989, 383, 479, 863, 975, 1871, 1991, 989, 1885, 1997, 511, 895, 991, 1887, 1999, 2013, 4607, 1023, 1919, 2015, 5119, 2047, 6143, 8191, 16383, 32767, 65535]
theorem wtTl0 (ls : List Lk) (l : Lk) (i : Int) (xs ys : List Int) : lookT 0 (wtT ls l i xs ys) = none := rfl
theorem wtTg0 : nthG wtTG 0 = some (.one 0 1) := rfl
theorem wtTl1 (ls : List Lk) (l : Lk) (i : Int) (xs ys : List Int) : lookT 1 (wtT ls l i xs ys) = none := rfl
theorem wtTg1 : nthG wtTG 1 = some (.one 2 2) := rfl
theorem wtTl2 (ls : List Lk) (l : Lk) (i : Int) (xs ys : List Int) : lookT 2 (wtT ls l i xs ys) = none := rfl
theorem wtTg2 : nthG wtTG 2 = some (.one 6 3) := rfl
theorem wtTl3 (ls : List Lk) (l : Lk) (i : Int) (xs ys : List Int) : lookT 3 (wtT ls l i xs ys) = none := rfl
theorem wtTg3 : nthG wtTG 3 = some (.one 8 4) := rfl
theorem wtTl4 (ls : List Lk) (l : Lk) (i : Int) (xs ys : List Int) : lookT 4 (wtT ls l i xs ys) = none := rfl
theorem wtTg4 : nthG wtTG 4 = some (.all [(1, 5), (3, 6), (7, 7), (9, 8)]) := rfl
theorem wtTl5 (ls : List Lk) (l : Lk) (i : Int) (xs ys : List Int) : lookT 5 (wtT ls l i xs ys) = none := rfl
theorem wtTg5 : nthG wtTG 5 = some (.all [(3, 9), (7, 10), (9, 11)]) := rfl
theorem wtTl6 (ls : List Lk) (l : Lk) (i : Int) (xs ys : List Int) : lookT 6 (wtT ls l i xs ys) = none := rfl
theorem wtTg6 : nthG wtTG 6 = some (.all [(1, 9), (4, 12), (7, 13), (9, 14)]) := rfl
theorem wtTl7 (ls : List Lk) (l : Lk) (i : Int) (xs ys : List Int) : lookT 7 (wtT ls l i xs ys) = none := rfl
theorem wtTg7 : nthG wtTG 7 = some (.all [(1, 10), (3, 13), (9, 15)]) := rfl
theorem wtTl8 (ls : List Lk) (l : Lk) (i : Int) (xs ys : List Int) : lookT 8 (wtT ls l i xs ys) = none := rfl
theorem wtTg8 : nthG wtTG 8 = some (.all [(1, 11), (3, 14), (7, 15), (10, 16)]) := rfl
theorem wtTl9 (ls : List Lk) (l : Lk) (i : Int) (xs ys : List Int) : lookT 9 (wtT ls l i xs ys) = some (wtT9 ls l i xs ys) := rfl
theorem wtTg9 : nthG wtTG 9 = some (.all [(4, 17), (7, 18), (9, 19)]) := rfl
theorem wtTl10 (ls : List Lk) (l : Lk) (i : Int) (xs ys : List Int) : lookT 10 (wtT ls l i xs ys) = some (wtT10 ls l i xs ys) := rfl
theorem wtTg10 : nthG wtTG 10 = some (.all [(3, 18), (9, 20)]) := rfl
theorem wtTl11 (ls : List Lk) (l : Lk) (i : Int) (xs ys : List Int) : lookT 11 (wtT ls l i xs ys) = some (wtT11 ls l i xs ys) := rfl
theorem wtTg11 : nthG wtTG 11 = some (.all [(3, 19), (7, 20), (10, 21)]) := rfl
theorem wtTl12 (ls : List Lk) (l : Lk) (i : Int) (xs ys : List Int) : lookT 12 (wtT ls l i xs ys) = none := rfl
theorem wtTg12 : nthG wtTG 12 = some (.all [(1, 17), (7, 22), (9, 23)]) := rfl
theorem wtTl13 (ls : List Lk) (l : Lk) (i : Int) (xs ys : List Int) : lookT 13 (wtT ls l i xs ys) = some (wtT13 ls l i xs ys) := rfl
theorem wtTg13 : nthG wtTG 13 = some (.all [(1, 18), (4, 22), (9, 24)]) := rfl
theorem wtTl14 (ls : List Lk) (l : Lk) (i : Int) (xs ys : List Int) : lookT 14 (wtT ls l i xs ys) = some (wtT14 ls l i xs ys) := rfl
theorem wtTg14 : nthG wtTG 14 = some (.all [(1, 19), (4, 23), (7, 24), (10, 25)]) := rfl
theorem wtTl15 (ls : List Lk) (l : Lk) (i : Int) (xs ys : List Int) : lookT 15 (wtT ls l i xs ys) = some (wtT15 ls l i xs ys) := rfl
theorem wtTg15 : nthG wtTG 15 = some (.all [(1, 20), (3, 24), (10, 26)]) := rfl
theorem wtTl16 (ls : List Lk) (l : Lk) (i : Int) (xs ys : List Int) : lookT 16 (wtT ls l i xs ys) = none := rfl
theorem wtTg16 : nthG wtTG 16 = some (.all [(1, 21), (3, 25), (7, 26)]) := rfl
theorem wtTl17 (ls : List Lk) (l : Lk) (i : Int) (xs ys : List Int) : lookT 17 (wtT ls l i xs ys) = some (wtT17 ls l i xs ys) := rfl
theorem wtTg17 : nthG wtTG 17 = some (.all [(5, 27), (7, 28), (9, 29)]) := rfl
theorem wtTl18 (ls : List Lk) (l : Lk) (i : Int) (xs ys : List Int) : lookT 18 (wtT ls l i xs ys) = some (wtT18 ls l i xs ys) := rfl
theorem wtTg18 : nthG wtTG 18 = some (.all [(4, 28), (9, 30)]) := rfl
theorem wtTl19 (ls : List Lk) (l : Lk) (i : Int) (xs ys : List Int) : lookT 19 (wtT ls l i xs ys) = some (wtT19 ls l i xs ys) := rfl
theorem wtTg19 : nthG wtTG 19 = some (.all [(4, 29), (7, 30), (10, 31)]) := rfl
theorem wtTl20 (ls : List Lk) (l : Lk) (i : Int) (xs ys : List Int) : lookT 20 (wtT ls l i xs ys) = some (wtT20 ls l i xs ys) := rfl
theorem wtTg20 : nthG wtTG 20 = some (.all [(3, 30), (10, 32)]) := rfl
theorem wtTl21 (ls : List Lk) (l : Lk) (i : Int) (xs ys : List Int) : lookT 21 (wtT ls l i xs ys) = some (wtT21 ls l i xs ys) := rfl
theorem wtTg21 : nthG wtTG 21 = some (.all [(3, 31), (7, 32)]) := rfl
theorem wtTl22 (ls : List Lk) (l : Lk) (i : Int) (xs ys : List Int) : lookT 22 (wtT ls l i xs ys) = some (wtT22 ls l i xs ys) := rfl
theorem wtTg22 : nthG wtTG 22 = some (.all [(1, 28), (9, 33)]) := rfl
theorem wtTl23 (ls : List Lk) (l : Lk) (i : Int) (xs ys : List Int) : lookT 23 (wtT ls l i xs ys) = some (wtT23 ls l i xs ys) := rfl
theorem wtTg23 : nthG wtTG 23 = some (.all [(1, 29), (7, 33), (10, 34)]) := rfl
theorem wtTl24 (ls : List Lk) (l : Lk) (i : Int) (xs ys : List Int) : lookT 24 (wtT ls l i xs ys) = some (wtT24 ls l i xs ys) := rfl
theorem wtTg24 : nthG wtTG 24 = some (.all [(1, 30), (4, 33), (10, 35)]) := rfl
theorem wtTl25 (ls : List Lk) (l : Lk) (i : Int) (xs ys : List Int) : lookT 25 (wtT ls l i xs ys) = some (wtT25 ls l i xs ys) := rfl
theorem wtTg25 : nthG wtTG 25 = some (.all [(1, 31), (4, 34), (7, 35)]) := rfl
theorem wtTl26 (ls : List Lk) (l : Lk) (i : Int) (xs ys : List Int) : lookT 26 (wtT ls l i xs ys) = some (wtT26 ls l i xs ys) := rfl
theorem wtTg26 : nthG wtTG 26 = some (.all [(1, 32), (3, 35)]) := rfl
theorem wtTl27 (ls : List Lk) (l : Lk) (i : Int) (xs ys : List Int) : lookT 27 (wtT ls l i xs ys) = none := rfl
theorem wtTg27 : nthG wtTG 27 = some (.all [(7, 36), (9, 37)]) := rfl
theorem wtTl28 (ls : List Lk) (l : Lk) (i : Int) (xs ys : List Int) : lookT 28 (wtT ls l i xs ys) = some (wtT28 ls l i xs ys) := rfl
theorem wtTg28 : nthG wtTG 28 = some (.all [(5, 36), (9, 38)]) := rfl
theorem wtTl29 (ls : List Lk) (l : Lk) (i : Int) (xs ys : List Int) : lookT 29 (wtT ls l i xs ys) = some (wtT29 ls l i xs ys) := rfl
theorem wtTg29 : nthG wtTG 29 = some (.all [(5, 37), (7, 38), (10, 39)]) := rfl
theorem wtTl30 (ls : List Lk) (l : Lk) (i : Int) (xs ys : List Int) : lookT 30 (wtT ls l i xs ys) = some (wtT30 ls l i xs ys) := rfl
theorem wtTg30 : nthG wtTG 30 = some (.all [(4, 38), (10, 40)]) := rfl
theorem wtTl31 (ls : List Lk) (l : Lk) (i : Int) (xs ys : List Int) : lookT 31 (wtT ls l i xs ys) = some (wtT31 ls l i xs ys) := rfl
theorem wtTg31 : nthG wtTG 31 = some (.all [(4, 39), (7, 40)]) := rfl
theorem wtTl32 (ls : List Lk) (l : Lk) (i : Int) (xs ys : List Int) : lookT 32 (wtT ls l i xs ys) = some (wtT32 ls l i xs ys) := rfl
theorem wtTg32 : nthG wtTG 32 = some (.all [(3, 40)]) := rfl
theorem wtTl33 (ls : List Lk) (l : Lk) (i : Int) (xs ys : List Int) : lookT 33 (wtT ls l i xs ys) = some (wtT33 ls l i xs ys) := rfl
theorem wtTg33 : nthG wtTG 33 = some (.all [(1, 38), (10, 41)]) := rfl
theorem wtTl34 (ls : List Lk) (l : Lk) (i : Int) (xs ys : List Int) : lookT 34 (wtT ls l i xs ys) = some (wtT34 ls l i xs ys) := rfl
theorem wtTg34 : nthG wtTG 34 = some (.all [(1, 39), (7, 41)]) := rfl
theorem wtTl35 (ls : List Lk) (l : Lk) (i : Int) (xs ys : List Int) : lookT 35 (wtT ls l i xs ys) = some (wtT35 ls l i xs ys) := rfl
theorem wtTg35 : nthG wtTG 35 = some (.all [(1, 40), (4, 41)]) := rfl
theorem wtTl36 (ls : List Lk) (l : Lk) (i : Int) (xs ys : List Int) : lookT 36 (wtT ls l i xs ys) = some (wtT36 ls l i xs ys) := rfl
theorem wtTg36 : nthG wtTG 36 = some (.one 12 42) := rfl
theorem wtTl37 (ls : List Lk) (l : Lk) (i : Int) (xs ys : List Int) : lookT 37 (wtT ls l i xs ys) = some (wtT37 ls l i xs ys) := rfl
theorem wtTg37 : nthG wtTG 37 = some (.all [(7, 43), (10, 44)]) := rfl
theorem wtTl38 (ls : List Lk) (l : Lk) (i : Int) (xs ys : List Int) : lookT 38 (wtT ls l i xs ys) = some (wtT38 ls l i xs ys) := rfl
theorem wtTg38 : nthG wtTG 38 = some (.all [(5, 43), (10, 45)]) := rfl
theorem wtTl39 (ls : List Lk) (l : Lk) (i : Int) (xs ys : List Int) : lookT 39 (wtT ls l i xs ys) = some (wtT39 ls l i xs ys) := rfl
theorem wtTg39 : nthG wtTG 39 = some (.all [(5, 44), (7, 45)]) := rfl
theorem wtTl40 (ls : List Lk) (l : Lk) (i : Int) (xs ys : List Int) : lookT 40 (wtT ls l i xs ys) = some (wtT40 ls l i xs ys) := rfl
theorem wtTg40 : nthG wtTG 40 = some (.all [(4, 45)]) := rfl
theorem wtTl41 (ls : List Lk) (l : Lk) (i : Int) (xs ys : List Int) : lookT 41 (wtT ls l i xs ys) = some (wtT41 ls l i xs ys) := rfl
theorem wtTg41 : nthG wtTG 41 = some (.all [(1, 45)]) := rfl
theorem wtTl42 (ls : List Lk) (l : Lk) (i : Int) (xs ys : List Int) : lookT 42 (wtT ls l i xs ys) = none := rfl
theorem wtTg42 : nthG wtTG 42 = some (.all [(9, 46)]) := rfl
theorem wtTl43 (ls : List Lk) (l : Lk) (i : Int) (xs ys : List Int) : lookT 43 (wtT ls l i xs ys) = some (wtT43 ls l i xs ys) := rfl
theorem wtTg43 : nthG wtTG 43 = some (.one 12 46) := rfl
theorem wtTl44 (ls : List Lk) (l : Lk) (i : Int) (xs ys : List Int) : lookT 44 (wtT ls l i xs ys) = some (wtT44 ls l i xs ys) := rfl
theorem wtTg44 : nthG wtTG 44 = some (.all [(7, 47)]) := rfl
theorem wtTl45 (ls : List Lk) (l : Lk) (i : Int) (xs ys : List Int) : lookT 45 (wtT ls l i xs ys) = some (wtT45 ls l i xs ys) := rfl
theorem wtTg45 : nthG wtTG 45 = some (.all [(5, 47)]) := rfl
theorem wtTl46 (ls : List Lk) (l : Lk) (i : Int) (xs ys : List Int) : lookT 46 (wtT ls l i xs ys) = some (wtT46 ls l i xs ys) := rfl
theorem wtTg46 : nthG wtTG 46 = some (.all [(10, 48)]) := rfl
theorem wtTl47 (ls : List Lk) (l : Lk) (i : Int) (xs ys : List Int) : lookT 47 (wtT ls l i xs ys) = some (wtT47 ls l i xs ys) := rfl
theorem wtTg47 : nthG wtTG 47 = some (.one 12 48) := rfl
theorem wtTl48 (ls : List Lk) (l : Lk) (i : Int) (xs ys : List Int) : lookT 48 (wtT ls l i xs ys) = some (wtT48 ls l i xs ys) := rfl
theorem wtTg48 : nthG wtTG 48 = some (.all [(11, 49)]) := rfl
theorem wtTl49 (ls : List Lk) (l : Lk) (i : Int) (xs ys : List Int) : lookT 49 (wtT ls l i xs ys) = none := rfl
theorem wtTg49 : nthG wtTG 49 = some (.all [(13, 50)]) := rfl
theorem wtTl50 (ls : List Lk) (l : Lk) (i : Int) (xs ys : List Int) : lookT 50 (wtT ls l i xs ys) = none := rfl
theorem wtTg50 : nthG wtTG 50 = some (.one 14 51) := rfl
theorem wtTl51 (ls : List Lk) (l : Lk) (i : Int) (xs ys : List Int) : lookT 51 (wtT ls l i xs ys) = none := rfl
theorem wtTg51 : nthG wtTG 51 = some (.all [(15, 52)]) := rfl
theorem wtTl52 (ls : List Lk) (l : Lk) (i : Int) (xs ys : List Int) : lookT 52 (wtT ls l i xs ys) = none := rfl
theorem wtTg52 : nthG wtTG 52 = some (.fin) := rfl
theorem wtTs0 (P : Program) (K : St → Prop) (σ : St) : atS P K c44_7L 0 σ = sGuard P K σ (some 14) (.fad 0 (.t 3)) none (guardOf σ none) := rfl
theorem wtTo0 (K : St → Prop) (σ : St) : atO K c44_7L 0 σ = SFg K σ (some 14) (.fad 0 (.t 3)) none (guardOf σ none) := by unfold c44_7L; simp only [atO_zero, atO_succ]
theorem wtTs1 (P : Program) (K : St → Prop) (σ : St) : atS P K c44_7L 1 σ = sGuard P K σ (some 15) (.ld none (.t 14)) none (guardOf σ none) := rfl
theorem wtTs2 (P : Program) (K : St → Prop) (σ : St) : atS P K c44_7L 2 σ = sGuard P K σ (some 16) (.fad 1 (.t 5)) none (guardOf σ none) := rfl
theorem wtTo2 (K : St → Prop) (σ : St) : atO K c44_7L 2 σ = SFg K σ (some 16) (.fad 1 (.t 5)) none (guardOf σ none) := by unfold c44_7L; simp only [atO_zero, atO_succ]
theorem wtTs3 (P : Program) (K : St → Prop) (σ : St) : atS P K c44_7L 3 σ = sGuard P K σ (some 17) (.ld none (.t 16)) none (guardOf σ none) := rfl
theorem wtTs4 (P : Program) (K : St → Prop) (σ : St) : atS P K c44_7L 4 σ = sGuard P K σ (some 18) (.bslice 3 1 [(.t 17)]) none (guardOf σ none) := rfl
theorem wtTs5 (P : Program) (K : St → Prop) (σ : St) : atS P K c44_7L 5 σ = sGuard P K σ (some 19) (.app 3 1 8 (.t 15) (.t 18)) none (guardOf σ none) := rfl
theorem wtTs6 (P : Program) (K : St → Prop) (σ : St) : atS P K c44_7L 6 σ = sGuard P K σ (some 20) (.fad 1 (.t 3)) none (guardOf σ none) := rfl
theorem wtTo6 (K : St → Prop) (σ : St) : atO K c44_7L 6 σ = SFg K σ (some 20) (.fad 1 (.t 3)) none (guardOf σ none) := by unfold c44_7L; simp only [atO_zero, atO_succ]
theorem wtTs7 (P : Program) (K : St → Prop) (σ : St) : atS P K c44_7L 7 σ = sGuard P K σ (some 21) (.ld none (.t 20)) none (guardOf σ none) := rfl
theorem wtTs8 (P : Program) (K : St → Prop) (σ : St) : atS P K c44_7L 8 σ = sGuard P K σ (some 22) (.fad 2 (.t 5)) none (guardOf σ none) := rfl
theorem wtTo8 (K : St → Prop) (σ : St) : atO K c44_7L 8 σ = SFg K σ (some 22) (.fad 2 (.t 5)) none (guardOf σ none) := by unfold c44_7L; simp only [atO_zero, atO_succ]
theorem wtTs9 (P : Program) (K : St → Prop) (σ : St) : atS P K c44_7L 9 σ = sGuard P K σ (some 23) (.ld none (.t 22)) none (guardOf σ none) := rfl
theorem wtTs10 (P : Program) (K : St → Prop) (σ : St) : atS P K c44_7L 10 σ = sGuard P K σ (some 24) (.bslice 3 1 [(.t 23)]) none (guardOf σ none) := rfl
theorem wtTs11 (P : Program) (K : St → Prop) (σ : St) : atS P K c44_7L 11 σ = sGuard P K σ (some 25) (.app 3 1 8 (.t 21) (.t 24)) none (guardOf σ none) := rfl
theorem wtTs12 (P : Program) (K : St → Prop) (σ : St) : atS P K c44_7L 12 σ = sGuard P K σ (some 26) (.fad 0 (.t 3)) none (guardOf σ none) := rfl
theorem wtTo12 (K : St → Prop) (σ : St) : atO K c44_7L 12 σ = SFg K σ (some 26) (.fad 0 (.t 3)) none (guardOf σ none) := by unfold c44_7L; simp only [atO_zero, atO_succ]
theorem wtTs13 (P : Program) (K : St → Prop) (σ : St) : atS P K c44_7L 13 σ = sGuard P K σ none (.st none (.t 26) (.t 19)) none (guardOf σ none) := rfl
theorem wtTs14 (P : Program) (K : St → Prop) (σ : St) : atS P K c44_7L 14 σ = sGuard P K σ (some 27) (.fad 1 (.t 3)) none (guardOf σ none) := rfl
theorem wtTo14 (K : St → Prop) (σ : St) : atO K c44_7L 14 σ = SFg K σ (some 27) (.fad 1 (.t 3)) none (guardOf σ none) := by unfold c44_7L; simp only [atO_zero, atO_succ]
theorem wtTs15 (P : Program) (K : St → Prop) (σ : St) : atS P K c44_7L 15 σ = sGuard P K σ none (.st none (.t 27) (.t 25)) none (guardOf σ none) := rfl
attribute [go_sem] wtT9 wtT10 wtT11 wtT13 wtT14 wtT15 wtT17 wtT18 wtT19 wtT20 wtT21 wtT22 wtT23 wtT24 wtT25 wtT26 wtT28 wtT29 wtT30 wtT31 wtT32 wtT33 wtT34 wtT35 wtT36 wtT37 wtT38 wtT39 wtT40 wtT41 wtT43 wtT44 wtT45 wtT46 wtT47 wtT48 wtTl0 wtTg0 wtTl1 wtTg1 wtTl2 wtTg2 wtTl3 wtTg3 wtTl4 wtTg4 wtTl5 wtTg5 wtTl6 wtTg6 wtTl7 wtTg7 wtTl8 wtTg8 wtTl9 wtTg9 wtTl10 wtTg10 wtTl11 wtTg11 wtTl12 wtTg12 wtTl13 wtTg13 wtTl14 wtTg14 wtTl15 wtTg15 wtTl16 wtTg16 wtTl17 wtTg17 wtTl18 wtTg18 wtTl19 wtTg19 wtTl20 wtTg20 wtTl21 wtTg21 wtTl22 wtTg22 wtTl23 wtTg23 wtTl24 wtTg24 wtTl25 wtTg25 wtTl26 wtTg26 wtTl27 wtTg27 wtTl28 wtTg28 wtTl29 wtTg29 wtTl30 wtTg30 wtTl31 wtTg31 wtTl32 wtTg32 wtTl33 wtTg33 wtTl34 wtTg34 wtTl35 wtTg35 wtTl36 wtTg36 wtTl37 wtTg37 wtTl38 wtTg38 wtTl39 wtTg39 wtTl40 wtTg40 wtTl41 wtTg41 wtTl42 wtTg42 wtTl43 wtTg43 wtTl44 wtTg44 wtTl45 wtTg45 wtTl46 wtTg46 wtTl47 wtTg47 wtTl48 wtTg48 wtTl49 wtTg49 wtTl50 wtTg50 wtTl51 wtTg51 wtTl52 wtTg52 wtTs0 wtTo0 wtTs1 wtTs2 wtTo2 wtTs3 wtTs4 wtTs5 wtTs6 wtTo6 wtTs7 wtTs8 wtTo8 wtTs9 wtTs10 wtTs11 wtTs12 wtTo12 wtTs13 wtTs14 wtTo14 wtTs15
def wt0 (ls : List Lk) (l : Lk) (i : Int) (xs ys : List Int) : St := ⟨44, [(2, .ptr 2 0), (3, .ptr 3 0), (5, .ptr 5 0), (8, .c (LL ls)), (9, .I ls.length), (10, .I i)], [(2, .box 25 [.c .nil, .c .nil, .c .nil]), (3, .box 25 [.own 900, .own 901, .c (LL ls)]), (5, .box 44 [.I l.id, .I l.obv, .I l.rev]), (900, .arr 3 1 (iRow xs)), (901, .arr 3 1 (iRow ys))]⟩
def wt1 (ls : List Lk) (l : Lk) (i : Int) (xs ys : List Int) : St := ⟨44, [(2, .ptr 2 0), (3, .ptr 3 0), (8, .c (LL ls)), (9, .I ls.length), (10, .I i)], [(2, .box 25 [.c .nil, .c .nil, .c .nil]), (3, .box 25 [.own 900, .own 901, .c (LL ls)]), (900, .arr 3 1 (iRow xs ++ [[.I l.obv]])), (901, .arr 3 1 (iRow ys ++ [[.I l.rev]]))]⟩
set_option maxHeartbeats 40000000 in
theorem r52 (ls : List Lk) (l : Lk) (i : Int) (xs ys : List Int) (hx : xs.length ≤ 1000) (hy : ys.length ≤ 1000) : AW Try.prog c44_7 (cutQ (wt1 ls l i xs ys)) (wt0 ls l i xs ys) := by
  refine AW_regG (wtT ls l i xs ys) wtTM wtTG (by kernel_rfl) (by kernel_rfl) (Both.mk ?_ ?_)
  · unfold wt0
    (repeat' (first | refine NextAt.mk (fun hc => ?_) (fun pre n v post hc hkey => ?_) | refine Sni.mk (fun hc => ?_) ?_ | refine Both.mk ?_ ?_ | refine AW_seq ?_ | refine AW_block ?_ | ((first | refine AW_reg ?_ | refine AW_cond ?_ | refine AW_skip ?_ | refine AW_exit ?_ | refine AW_ret ?_ | refine AW_regD (by kernel_rfl) ?_ | refine AW_regX (by kernel_rfl) ?_ | refine CallAtG.t (Eq.refl true) ?_ | refine CallAtG.f (Eq.refl false) ?_); try simp (disch := omega) only [go_sem, seval, reduceCtorEq, ↓reduceIte, beq_dec, Int.toNat_natCast, IntKind.signed, IntKind.bits, wt1, List.length_append, List.length_map, maxLen]) | refine And.intro (fun hc => (?_ : AW _ _ _ _)) (fun hc => (?_ : AW _ _ _ _)) | simp (disch := omega) only [go_sem, seval, reduceCtorEq, ↓reduceIte, beq_dec, Int.toNat_natCast, IntKind.signed, IntKind.bits, wt1, List.length_append, List.length_map, maxLen] | (refine And.intro ?_ ?_; focus (first | (intros; omega) | (intros; simp_all; done))) | refine And.intro (?_ : CallAt _ _ _ _ _ _ _ _) ?_ | refine And.intro (?_ : CallAt _ _ _ _ _ _ _ _ ∧ _) ?_ | refine And.intro (?_ : AW _ _ _ _) ?_ | fail))
  · unfold wtT
    (repeat' (first | refine NextAt.mk (fun hc => ?_) (fun pre n v post hc hkey => ?_) | refine Sni.mk (fun hc => ?_) ?_ | refine Both.mk ?_ ?_ | refine AW_seq ?_ | refine AW_block ?_ | ((first | refine AW_reg ?_ | refine AW_cond ?_ | refine AW_skip ?_ | refine AW_exit ?_ | refine AW_ret ?_ | refine AW_regD (by kernel_rfl) ?_ | refine AW_regX (by kernel_rfl) ?_ | refine CallAtG.t (Eq.refl true) ?_ | refine CallAtG.f (Eq.refl false) ?_); try simp (disch := omega) only [go_sem, seval, reduceCtorEq, ↓reduceIte, beq_dec, Int.toNat_natCast, IntKind.signed, IntKind.bits, wt1, knotsP_nil, knotsP_cons, List.length_append, List.length_map, maxLen]) | refine And.intro (fun hc => (?_ : AW _ _ _ _)) (fun hc => (?_ : AW _ _ _ _)) | simp (disch := omega) only [go_sem, seval, reduceCtorEq, ↓reduceIte, beq_dec, Int.toNat_natCast, IntKind.signed, IntKind.bits, wt1, knotsP_nil, knotsP_cons, List.length_append, List.length_map, maxLen] | (refine And.intro ?_ ?_; focus (first | (intros; omega) | (intros; simp_all; done))) | refine And.intro (?_ : CallAt _ _ _ _ _ _ _ _) ?_ | refine And.intro (?_ : CallAt _ _ _ _ _ _ _ _ ∧ _) ?_ | refine And.intro (?_ : AW _ _ _ _) ?_ | fail))
    all_goals omega
end Go.Proofs.Ytgldpbghbkoolaa

-- P p_15.txt
open Go Go.AL Go.RowKit
namespace Go.Proofs.Ytgldpbghbkoolaa
set_option maxRecDepth 20000
theorem hold52 {Q : Exit → St → Prop} {σ : St} (h : Hold (AW Try.prog c44_7 Q σ)) : AW Try.prog c44_7 Q σ := h.out
theorem hold52b {Q : Exit → St → Prop} {σ : St} (h : Hold (AW Try.prog c44_20 Q σ)) : AW Try.prog c44_20 Q σ := h.out
theorem take_map_succ {α : Type} [Inhabited α] (f : α → Int) (l : List α) (i : Nat) (h : i < l.length) : iRow ((l.take (i + 1)).map f) = iRow ((l.take i).map f) ++ [[CD.I (f (nth l i))]] := by
  rw [List.take_succ_eq_append_getElem h, nth_eq l i h, List.map_append]
  unfold iRow
  rw [List.map_append]; rfl
set_option maxHeartbeats 4000000 in
theorem f52 (ls : List Lk) (hl : ls.length ≤ 64) : FnR Try.prog 44 [.c (LL ls)] [.agg [Row (cs (ls.map Lk.obv)), Row (cs (ls.map Lk.rev)), LL ls]] := by
  have ga := f63 900 (ls.map Lk.obv) (by simp; omega)
  have gb := f63 901 (ls.map Lk.rev) (by simp; omega)
  have gc := f64 900 (srt (ls.map Lk.obv)) (by rw [srt_len]; simp; omega)
  have gd := f64 901 (srt (ls.map Lk.rev)) (by rw [srt_len]; simp; omega)
  refine fn_walk code44 (by simp) ?_
  (repeat' (first | refine NextAt.mk (fun hc => ?_) (fun pre n v post hc hkey => ?_) | refine Sni.mk (fun hc => ?_) ?_ | refine Both.mk ?_ ?_ | refine AW_seq ?_ | refine AW_block ?_ | ((first | refine AW_reg ?_ | refine AW_cond ?_ | refine AW_skip ?_ | refine AW_exit ?_ | refine AW_ret ?_ | refine AW_regD (by kernel_rfl) ?_ | refine AW_regX (by kernel_rfl) ?_ | refine CallAtG.t (Eq.refl true) ?_ | refine CallAtG.f (Eq.refl false) ?_); try simp (disch := omega) only [go_sem, seval, reduceCtorEq, ↓reduceIte, beq_dec, Int.toNat_natCast, IntKind.signed, IntKind.bits]) | refine And.intro (fun hc => (?_ : AW _ _ _ _)) (fun hc => (?_ : AW _ _ _ _)) | simp (disch := omega) only [go_sem, seval, reduceCtorEq, ↓reduceIte, beq_dec, Int.toNat_natCast, IntKind.signed, IntKind.bits] | (refine And.intro ?_ ?_; focus (first | (intros; omega) | (intros; simp_all; done))) | refine And.intro (?_ : CallAt _ _ _ _ _ _ _ _) ?_ | refine And.intro (?_ : CallAt _ _ _ _ _ _ _ _ ∧ _) ?_ | refine And.intro (?_ : AW _ _ _ _) ?_ | fail))
  refine AW_nilB 3 0 900 3 1 25 _ (by rfl) (by rfl) ?_
  simp (disch := omega) only [go_sem, seval, reduceCtorEq, ↓reduceIte, beq_dec, Int.toNat_natCast, IntKind.signed, IntKind.bits]
  refine AW_nilB 3 1 901 3 1 25 _ (by rfl) (by rfl) ?_
  simp (disch := omega) only [go_sem, seval, reduceCtorEq, ↓reduceIte, beq_dec, Int.toNat_natCast, IntKind.signed, IntKind.bits]
  refine AW_loopK [2, 3, 8, 9] [5, 10, 11, 12, 13, 14, 15, 16, 17, 18, 19, 20, 21, 22, 23, 24, 25, 26, 27, 28] (fun i : Nat => i ≤ ls.length) (fun i => [(10, .I i)]) (fun i => [(3, .box 25 [.own 900, .own 901, .c (LL ls)]), (900, .arr 3 1 (iRow ((ls.take i).map Lk.obv))), (901, .arr 3 1 (iRow ((ls.take i).map Lk.rev)))]) (fun i => ls.length - i) 0 (by omega) ?_ ?_
  · simp (disch := omega) only [go_sem, seval, reduceCtorEq, ↓reduceIte, beq_dec, Int.toNat_natCast, IntKind.signed, IntKind.bits, Int.natCast_zero, List.take_zero, List.map_nil]
  · intro i hi
    (repeat' (first | (with_reducible refine hold52 ?_; try simp (disch := omega) only [go_sem, seval, reduceCtorEq, ↓reduceIte, beq_dec, Int.toNat_natCast, IntKind.signed, IntKind.bits, getD_map Lk.cd, Lk.cd, List.length_map, maxLen]) | refine NextAt.mk (fun hc => ?_) (fun pre n v post hc hkey => ?_) | refine Sni.mk (fun hc => ?_) ?_ | refine Both.mk ?_ ?_ | refine AW_seq ?_ | refine AW_block ?_ | ((first | refine AW_reg ?_ | refine AW_cond ?_ | refine AW_skip ?_ | refine AW_exit ?_ | refine AW_ret ?_ | refine AW_regD (by kernel_rfl) ?_ | refine AW_regX (by kernel_rfl) ?_ | refine CallAtG.t (Eq.refl true) ?_ | refine CallAtG.f (Eq.refl false) ?_); try simp (disch := omega) only [go_sem, seval, reduceCtorEq, ↓reduceIte, beq_dec, Int.toNat_natCast, IntKind.signed, IntKind.bits, getD_map Lk.cd, Lk.cd, List.length_map, maxLen]) | refine And.intro (fun hc => (?_ : AW _ _ _ _)) (fun hc => (?_ : AW _ _ _ _)) | simp (disch := omega) only [go_sem, seval, reduceCtorEq, ↓reduceIte, beq_dec, Int.toNat_natCast, IntKind.signed, IntKind.bits, getD_map Lk.cd, Lk.cd, List.length_map, maxLen] | (refine And.intro ?_ ?_; focus (first | (intros; omega) | (intros; simp_all; done))) | refine And.intro (?_ : CallAt _ _ _ _ _ _ _ _) ?_ | refine And.intro (?_ : CallAt _ _ _ _ _ _ _ _ ∧ _) ?_ | refine And.intro (?_ : AW _ _ _ _) ?_ | fail))
    · refine ⟨AW_cut (wt1 ls (nth ls i) i ((ls.take i).map Lk.obv) ((ls.take i).map Lk.rev)) (wt0 ls (nth ls i) i ((ls.take i).map Lk.obv) ((ls.take i).map Lk.rev)) (r52 ls (nth ls i) i _ _ (by simp; omega) (by simp; omega)) ?_ ?_⟩
      · unfold wt0
        simp (disch := omega) only [go_sem, seval, reduceCtorEq, ↓reduceIte, beq_dec, Int.toNat_natCast, IntKind.signed, IntKind.bits]
      · unfold wt1
        (repeat' (first | refine NextAt.mk (fun hc => ?_) (fun pre n v post hc hkey => ?_) | refine Sni.mk (fun hc => ?_) ?_ | refine Both.mk ?_ ?_ | refine AW_seq ?_ | refine AW_block ?_ | ((first | refine AW_reg ?_ | refine AW_cond ?_ | refine AW_skip ?_ | refine AW_exit ?_ | refine AW_ret ?_ | refine AW_regD (by kernel_rfl) ?_ | refine AW_regX (by kernel_rfl) ?_ | refine CallAtG.t (Eq.refl true) ?_ | refine CallAtG.f (Eq.refl false) ?_); try simp (disch := omega) only [go_sem, seval, reduceCtorEq, ↓reduceIte, beq_dec, Int.toNat_natCast, IntKind.signed, IntKind.bits]) | refine And.intro (fun hc => (?_ : AW _ _ _ _)) (fun hc => (?_ : AW _ _ _ _)) | simp (disch := omega) only [go_sem, seval, reduceCtorEq, ↓reduceIte, beq_dec, Int.toNat_natCast, IntKind.signed, IntKind.bits] | (refine And.intro ?_ ?_; focus (first | (intros; omega) | (intros; simp_all; done))) | refine And.intro (?_ : CallAt _ _ _ _ _ _ _ _) ?_ | refine And.intro (?_ : CallAt _ _ _ _ _ _ _ _ ∧ _) ?_ | refine And.intro (?_ : AW _ _ _ _) ?_ | fail))
        refine .mk (i + 1) (by omega) (by omega) ?_
        rw [take_map_succ Lk.obv ls i (by omega), take_map_succ Lk.rev ls i (by omega)]
        simp (disch := omega) only [go_sem, seval, reduceCtorEq, ↓reduceIte, beq_dec, Int.toNat_natCast, IntKind.signed, IntKind.bits, Int.natCast_add, Int.natCast_one]
    · have hil : i = ls.length := by omega
      subst hil
      rw [List.take_length]
      (repeat' (first | (with_reducible refine hold52b ?_; try simp (disch := omega) only [go_sem, seval, reduceCtorEq, ↓reduceIte, beq_dec, Int.toNat_natCast, IntKind.signed, IntKind.bits]) | refine NextAt.mk (fun hc => ?_) (fun pre n v post hc hkey => ?_) | refine Sni.mk (fun hc => ?_) ?_ | refine Both.mk ?_ ?_ | refine AW_seq ?_ | refine AW_block ?_ | ((first | refine AW_reg ?_ | refine AW_cond ?_ | refine AW_skip ?_ | refine AW_exit ?_ | refine AW_ret ?_ | refine AW_regD (by kernel_rfl) ?_ | refine AW_regX (by kernel_rfl) ?_ | refine CallAt.mkW (ga ..) (by rfl) (by simp (disch := omega) only [go_sem, seval, reduceCtorEq, ↓reduceIte, beq_dec, Int.toNat_natCast, IntKind.signed, IntKind.bits]) (by rfl) (by rfl) (by first | (intro h; cases h; done) | (intro _; simp [RV.flatP, CD.flatP, flatOb, AO.flatP]; done)) ?_ | refine CallAt.mkW (gb ..) (by rfl) (by simp (disch := omega) only [go_sem, seval, reduceCtorEq, ↓reduceIte, beq_dec, Int.toNat_natCast, IntKind.signed, IntKind.bits]) (by rfl) (by rfl) (by first | (intro h; cases h; done) | (intro _; simp [RV.flatP, CD.flatP, flatOb, AO.flatP]; done)) ?_ | refine CallAt.mkW (gc ..) (by rfl) (by simp (disch := omega) only [go_sem, seval, reduceCtorEq, ↓reduceIte, beq_dec, Int.toNat_natCast, IntKind.signed, IntKind.bits]) (by rfl) (by rfl) (by first | (intro h; cases h; done) | (intro _; simp [RV.flatP, CD.flatP, flatOb, AO.flatP]; done)) ?_ | refine CallAt.mkW (gd ..) (by rfl) (by simp (disch := omega) only [go_sem, seval, reduceCtorEq, ↓reduceIte, beq_dec, Int.toNat_natCast, IntKind.signed, IntKind.bits]) (by rfl) (by rfl) (by first | (intro h; cases h; done) | (intro _; simp [RV.flatP, CD.flatP, flatOb, AO.flatP]; done)) ?_ | refine CallAtG.t (Eq.refl true) ?_ | refine CallAtG.f (Eq.refl false) ?_); try simp (disch := omega) only [go_sem, seval, reduceCtorEq, ↓reduceIte, beq_dec, Int.toNat_natCast, IntKind.signed, IntKind.bits]) | refine And.intro (fun hc => (?_ : AW _ _ _ _)) (fun hc => (?_ : AW _ _ _ _)) | simp (disch := omega) only [go_sem, seval, reduceCtorEq, ↓reduceIte, beq_dec, Int.toNat_natCast, IntKind.signed, IntKind.bits] | (refine And.intro ?_ ?_; focus (first | (intros; omega) | (intros; simp_all; done))) | refine And.intro (?_ : CallAt _ _ _ _ _ _ _ _) ?_ | refine And.intro (?_ : CallAt _ _ _ _ _ _ _ _ ∧ _) ?_ | refine And.intro (?_ : AW _ _ _ _) ?_ | refine And.intro (?_ : _ ∧ _) ?_ | fail))
      all_goals (
        refine ⟨AW_frz [37, 40] ?_⟩
        simp (disch := omega) only [go_sem, seval, reduceCtorEq, ↓reduceIte, beq_dec, Int.toNat_natCast, IntKind.signed, IntKind.bits])
      all_goals ((repeat' (first | refine NextAt.mk (fun hc => ?_) (fun pre n v post hc hkey => ?_) | refine Sni.mk (fun hc => ?_) ?_ | refine Both.mk ?_ ?_ | refine AW_seq ?_ | refine AW_block ?_ | ((first | refine AW_reg ?_ | refine AW_cond ?_ | refine AW_skip ?_ | refine AW_exit ?_ | refine AW_ret ?_ | refine AW_regD (by kernel_rfl) ?_ | refine AW_regX (by kernel_rfl) ?_ | refine CallAtG.t (Eq.refl true) ?_ | refine CallAtG.f (Eq.refl false) ?_); try simp (disch := omega) only [go_sem, seval, reduceCtorEq, ↓reduceIte, beq_dec, Int.toNat_natCast, IntKind.signed, IntKind.bits]) | refine And.intro (fun hc => (?_ : AW _ _ _ _)) (fun hc => (?_ : AW _ _ _ _)) | simp (disch := omega) only [go_sem, seval, reduceCtorEq, ↓reduceIte, beq_dec, Int.toNat_natCast, IntKind.signed, IntKind.bits] | (refine And.intro ?_ ?_; focus (first | (intros; omega) | (intros; simp_all; done))) | refine And.intro (?_ : CallAt _ _ _ _ _ _ _ _) ?_ | refine And.intro (?_ : CallAt _ _ _ _ _ _ _ _ ∧ _) ?_ | refine And.intro (?_ : AW _ _ _ _) ?_ | fail)))
      all_goals rfl
end Go.Proofs.Ytgldpbghbkoolaa

-- P p_15.txt
open Go Go.AL Go.RowKit
namespace Go.Proofs.Ytgldpbghbkoolaa
set_option maxRecDepth 20000
def Asc (l : List Int) : Prop := l.Pairwise (· < ·)
theorem asc_lt {l : List Int} (h : Asc l) {i j : Nat} (hij : i < j) (hj : j < l.length) : nth l i < nth l j := by
  rw [nth_eq l i (by omega), nth_eq l j hj]
  exact List.pairwise_iff_getElem.1 h i j (by omega) hj hij
theorem asc_le {l : List Int} (h : Asc l) {i j : Nat} (hij : i ≤ j) (hj : j < l.length) : nth l i ≤ nth l j := by
  rcases Nat.lt_or_ge i j with h' | h'
  · have := asc_lt h h' hj; omega
  · have : i = j := by omega
    subst this; exact Int.le_refl _
theorem asc_of {l : List Int} (h : ∀ i, i < l.length → 0 < i → nth l (i - 1) < nth l i) : Asc l := by
  have key : ∀ i j, i < j → j < l.length → nth l i < nth l j := by
    intro i j hij
    induction j with
    | zero => omega
    | succ j ih =>
      intro hj
      have h1 := h (j + 1) hj (by omega)
      simp only [Nat.add_sub_cancel] at h1
      by_cases e : i = j
      · subst e; exact h1
      · have := ih (by omega) (by omega); omega
  refine List.pairwise_iff_getElem.2 fun i j hi hj hij => ?_
  have := key i j hij hj
  rwa [nth_eq l i hi, nth_eq l j hj] at this
/-- how many stand before -/
def bef (l : List Int) (x : Int) : Nat := l.countP (· < x)
theorem bef_eq {l : List Int} (h : Asc l) {x : Int} {i : Nat} (hi : i ≤ l.length) (h1 : ∀ j, j < i → nth l j < x) (h2 : ∀ j, i ≤ j → j < l.length → x ≤ nth l j) : bef l x = i := by
  unfold bef
  have e : l = l.take i ++ l.drop i := (List.take_append_drop i l).symm
  have c1 : (l.take i).countP (· < x) = i := by
    have : (l.take i).countP (· < x) = (l.take i).length := List.countP_eq_length.2 fun y hy => by
      obtain ⟨j, hj, rfl⟩ := List.getElem_of_mem hy
      have hji : j < i := by simp at hj; omega
      have := h1 j hji
      rw [nth_eq l j (by omega)] at this
      simpa using this
    rw [this]; simp; omega
  have c2 : (l.drop i).countP (· < x) = 0 := List.countP_eq_zero.2 fun y hy => by
    obtain ⟨j, hj, rfl⟩ := List.getElem_of_mem hy
    have hj' : i + j < l.length := by simp at hj; omega
    have := h2 (i + j) (by omega) hj'
    rw [nth_eq l _ hj'] at this
    simp; exact this
  rw [e, List.countP_append, c1, c2]; simp
set_option maxHeartbeats 1000000 in
theorem f62 (l : List Int) (x : Int) (ha : Asc l) (hl : l.length ≤ 1000) : FnR Try.prog 57 [.c (Row l), .I x] [.c (.I (bef l x)), .c (.B (decide (x ∈ l)))] := by
  refine fn_walk code57 (by simp) ?_
  (repeat' (first | refine NextAt.mk (fun hc => ?_) (fun pre n v post hc hkey => ?_) | refine Sni.mk (fun hc => ?_) ?_ | refine Both.mk ?_ ?_ | refine AW_seq ?_ | refine AW_block ?_ | ((first | refine AW_reg ?_ | refine AW_cond ?_ | refine AW_skip ?_ | refine AW_exit ?_ | refine AW_ret ?_ | refine AW_regD (by kernel_rfl) ?_ | refine AW_regX (by kernel_rfl) ?_ | refine CallAtG.t (Eq.refl true) ?_ | refine CallAtG.f (Eq.refl false) ?_); try simp (disch := omega) only [go_sem, seval, reduceCtorEq, ↓reduceIte, beq_dec, Int.toNat_natCast, IntKind.signed, IntKind.bits]) | refine And.intro (fun hc => (?_ : AW _ _ _ _)) (fun hc => (?_ : AW _ _ _ _)) | simp (disch := omega) only [go_sem, seval, reduceCtorEq, ↓reduceIte, beq_dec, Int.toNat_natCast, IntKind.signed, IntKind.bits] | (refine And.intro ?_ ?_; focus (first | (intros; omega) | (intros; simp_all; done))) | refine And.intro (?_ : CallAt _ _ _ _ _ _ _ _) ?_ | refine And.intro (?_ : CallAt _ _ _ _ _ _ _ _ ∧ _) ?_ | refine And.intro (?_ : AW _ _ _ _) ?_ | fail))
  refine AW_loopK [0, 1, 6] [7, 8, 9, 13, 14, 15, 16, 17, 18, 19, 20, 21, 22, 23, 24, 25, 26, 27, 28, 29, 30] (fun p : Nat × Nat => p.1 ≤ p.2 ∧ p.2 ≤ l.length ∧ (∀ j, j < p.1 → nth l j < x) ∧ ∀ j, p.2 ≤ j → j < l.length → x ≤ nth l j) (fun p => [(7, .I p.1), (8, .I p.2)]) (fun _ => []) (fun p => p.2 - p.1) (0, l.length) ⟨by omega, by omega, by omega, by omega⟩ ?_ ?_
  · simp (disch := omega) only [go_sem, seval, reduceCtorEq, ↓reduceIte, beq_dec, Int.toNat_natCast, IntKind.signed, IntKind.bits, Int.natCast_zero]
  · rintro ⟨i, j⟩ ⟨h1, h2, h3, h4⟩
    simp only at h1 h2 h3 h4
    have e : ((i : Int) + j) / 2 = (((i + j) / 2 : Nat) : Int) := by omega
    have r1 : nth l ((i + j) / 2) < x → i < j → (∀ k, k < (i + j) / 2 + 1 → nth l k < x) := fun h hij k hk => by
      have := asc_le ha (show k ≤ (i + j) / 2 by omega) (by omega); omega
    have r2 : ¬ nth l ((i + j) / 2) < x → i < j → (∀ k, (i + j) / 2 ≤ k → k < l.length → x ≤ nth l k) := fun h hij k hk hkl => by
      have := asc_le ha hk hkl; omega
    have fin : j ≤ i → bef l x = i := fun hij => bef_eq ha (by omega) h3 fun k hk hkl => h4 k (by omega) hkl
    have mem : j ≤ i → (x ∈ l ↔ ∃ h : i < l.length, nth l i = x) := fun hij => by
      constructor
      · intro hm
        obtain ⟨k, hk, rfl⟩ := List.getElem_of_mem hm
        rw [← nth_eq l k hk] at h3 h4 ⊢
        have hik : i ≤ k := Nat.le_of_not_lt fun h => by have := h3 k h; omega
        have hil : i < l.length := by omega
        refine ⟨hil, ?_⟩
        have h5 := h4 i (by omega) hil
        have h6 := asc_le ha hik hk
        omega
      · rintro ⟨h, rfl⟩; exact nth_mem' l i h
    rcases Nat.lt_or_ge i l.length with hil | hil
    · have hd : decide ((i : Int) < (l.length : Int)) = true := by simp; omega
      (repeat' (first | refine NextAt.mk (fun hc => ?_) (fun pre n v post hc hkey => ?_) | refine Sni.mk (fun hc => ?_) ?_ | refine Both.mk ?_ ?_ | refine AW_seq ?_ | refine AW_block ?_ | ((first | refine AW_reg ?_ | refine AW_cond ?_ | refine AW_skip ?_ | refine AW_exit ?_ | refine AW_ret ?_ | refine AW_regD (by kernel_rfl) ?_ | refine AW_regX (by kernel_rfl) ?_ | refine CallAtG.t (Eq.refl true) ?_ | refine CallAtG.f (Eq.refl false) ?_ | refine CallAt.mk _ (f68 ..) (by first | (intro h; cases h; done) | (intro _; repeat' (first | exact List.forall_mem_nil _ | trivial | refine List.forall_mem_cons.2 ⟨?_, ?_⟩)) | (intro _; simp [RV.flatP, CD.flatP, getD_map (fun x : Int => [CD.I x]), e, hd, Bool.true_and, Bool.and_true, true_and, forall_const]; done)) ?_ | refine CallAtG.mk _ (fun _ => f68 ..) ?_ | refine CallDS.mk _ (by simp [RV.data]) (fun _ => f68 ..) (by first | (intro h; cases h; done) | (intro _; repeat' (first | exact List.forall_mem_nil _ | trivial | refine List.forall_mem_cons.2 ⟨?_, ?_⟩)) | (intro _; simp [RV.flatP, CD.flatP, getD_map (fun x : Int => [CD.I x]), e, hd, Bool.true_and, Bool.and_true, true_and, forall_const]; done)) ?_ | refine CallAt.mk _ (f69 ..) (by first | (intro h; cases h; done) | (intro _; repeat' (first | exact List.forall_mem_nil _ | trivial | refine List.forall_mem_cons.2 ⟨?_, ?_⟩)) | (intro _; simp [RV.flatP, CD.flatP, getD_map (fun x : Int => [CD.I x]), e, hd, Bool.true_and, Bool.and_true, true_and, forall_const]; done)) ?_ | refine CallAtG.mk _ (fun _ => f69 ..) ?_ | refine CallDS.mk _ (by simp [RV.data]) (fun _ => f69 ..) (by first | (intro h; cases h; done) | (intro _; repeat' (first | exact List.forall_mem_nil _ | trivial | refine List.forall_mem_cons.2 ⟨?_, ?_⟩)) | (intro _; simp [RV.flatP, CD.flatP, getD_map (fun x : Int => [CD.I x]), e, hd, Bool.true_and, Bool.and_true, true_and, forall_const]; done)) ?_); try simp (disch := omega) only [go_sem, seval, reduceCtorEq, ↓reduceIte, beq_dec, Int.toNat_natCast, IntKind.signed, IntKind.bits, getD_map (fun x : Int => [CD.I x]), e, hd, Bool.true_and, Bool.and_true, true_and, forall_const]) | refine And.intro (fun hc => (?_ : AW _ _ _ _)) (fun hc => (?_ : AW _ _ _ _)) | simp (disch := omega) only [go_sem, seval, reduceCtorEq, ↓reduceIte, beq_dec, Int.toNat_natCast, IntKind.signed, IntKind.bits, getD_map (fun x : Int => [CD.I x]), e, hd, Bool.true_and, Bool.and_true, true_and, forall_const] | (refine And.intro ?_ ?_; focus (first | (intros; omega) | (intros; simp_all; done))) | refine And.intro (?_ : CallAt _ _ _ _ _ _ _ _) ?_ | refine And.intro (?_ : CallAt _ _ _ _ _ _ _ _ ∧ _) ?_ | refine And.intro (?_ : AW _ _ _ _) ?_ | fail))
      · refine .mk ((i + j) / 2 + 1, j) ⟨by omega, by omega, r1 hc (by omega), h4⟩ (by simp only; omega) ?_
        simp (disch := omega) only [go_sem, seval, reduceCtorEq, ↓reduceIte, beq_dec, Int.toNat_natCast, IntKind.signed, IntKind.bits, Int.natCast_add, Int.natCast_one]
      · refine .mk (i, (i + j) / 2) ⟨by omega, by omega, h3, r2 hc (by omega)⟩ (by simp only; omega) ?_
        simp (disch := omega) only [go_sem, seval, reduceCtorEq, ↓reduceIte, beq_dec, Int.toNat_natCast, IntKind.signed, IntKind.bits]
      · rw [decide_eq_decide, mem (by omega)]
        exact ⟨fun h => ⟨hil, h⟩, fun ⟨_, h⟩ => h⟩
    · have hd : decide ((i : Int) < (l.length : Int)) = false := by simp; omega
      have hij : ¬ (i : Int) < j := by omega
      have hx : decide (x ∈ l) = false := by
        rw [decide_eq_false_iff_not, mem (by omega)]
        exact fun ⟨h, _⟩ => by omega
      (repeat' (first | refine NextAt.mk (fun hc => ?_) (fun pre n v post hc hkey => ?_) | refine Sni.mk (fun hc => ?_) ?_ | refine Both.mk ?_ ?_ | refine AW_seq ?_ | refine AW_block ?_ | ((first | refine AW_reg ?_ | refine AW_cond ?_ | refine AW_skip ?_ | refine AW_exit ?_ | refine AW_ret ?_ | refine AW_regD (by kernel_rfl) ?_ | refine AW_regX (by kernel_rfl) ?_ | refine CallAtG.t (Eq.refl true) ?_ | refine CallAtG.f (Eq.refl false) ?_ | refine CallAt.mk _ (f68 ..) (by first | (intro h; cases h; done) | (intro _; repeat' (first | exact List.forall_mem_nil _ | trivial | refine List.forall_mem_cons.2 ⟨?_, ?_⟩)) | (intro _; simp [RV.flatP, CD.flatP, getD_map_ge (fun x : Int => [CD.I x]), e, hd, hij, hx, List.map_nil, List.headD_nil, decide_false, Bool.false_and]; done)) ?_ | refine CallAtG.mk _ (fun _ => f68 ..) ?_ | refine CallDS.mk _ (by simp [RV.data]) (fun _ => f68 ..) (by first | (intro h; cases h; done) | (intro _; repeat' (first | exact List.forall_mem_nil _ | trivial | refine List.forall_mem_cons.2 ⟨?_, ?_⟩)) | (intro _; simp [RV.flatP, CD.flatP, getD_map_ge (fun x : Int => [CD.I x]), e, hd, hij, hx, List.map_nil, List.headD_nil, decide_false, Bool.false_and]; done)) ?_ | refine CallAt.mk _ (f69 ..) (by first | (intro h; cases h; done) | (intro _; repeat' (first | exact List.forall_mem_nil _ | trivial | refine List.forall_mem_cons.2 ⟨?_, ?_⟩)) | (intro _; simp [RV.flatP, CD.flatP, getD_map_ge (fun x : Int => [CD.I x]), e, hd, hij, hx, List.map_nil, List.headD_nil, decide_false, Bool.false_and]; done)) ?_ | refine CallAtG.mk _ (fun _ => f69 ..) ?_ | refine CallDS.mk _ (by simp [RV.data]) (fun _ => f69 ..) (by first | (intro h; cases h; done) | (intro _; repeat' (first | exact List.forall_mem_nil _ | trivial | refine List.forall_mem_cons.2 ⟨?_, ?_⟩)) | (intro _; simp [RV.flatP, CD.flatP, getD_map_ge (fun x : Int => [CD.I x]), e, hd, hij, hx, List.map_nil, List.headD_nil, decide_false, Bool.false_and]; done)) ?_); try simp (disch := omega) only [go_sem, seval, reduceCtorEq, ↓reduceIte, beq_dec, Int.toNat_natCast, IntKind.signed, IntKind.bits, getD_map_ge (fun x : Int => [CD.I x]), e, hd, hij, hx, List.map_nil, List.headD_nil, decide_false, Bool.false_and]) | refine And.intro (fun hc => (?_ : AW _ _ _ _)) (fun hc => (?_ : AW _ _ _ _)) | simp (disch := omega) only [go_sem, seval, reduceCtorEq, ↓reduceIte, beq_dec, Int.toNat_natCast, IntKind.signed, IntKind.bits, getD_map_ge (fun x : Int => [CD.I x]), e, hd, hij, hx, List.map_nil, List.headD_nil, decide_false, Bool.false_and] | (refine And.intro ?_ ?_; focus (first | (intros; omega) | (intros; simp_all; done))) | refine And.intro (?_ : CallAt _ _ _ _ _ _ _ _) ?_ | refine And.intro (?_ : CallAt _ _ _ _ _ _ _ _ ∧ _) ?_ | refine And.intro (?_ : AW _ _ _ _) ?_ | fail))
      rw [fin (by omega)]
end Go.Proofs.Ytgldpbghbkoolaa

