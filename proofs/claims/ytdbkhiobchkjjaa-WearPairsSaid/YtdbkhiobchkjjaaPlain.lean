/-
  Lemmas for the proof: no statement of its own.
-/
import Derived.Test.YtdbkhiobchkjjaaWalkA
import Derived.Lib.SlicesCompact
import Derived.Shelf.Sort.Plain
import Derived.Ground.Names2Prog
import Derived.Shelf.Slices.CompactI
import Derived.Shelf.Slices.Delete
import Derived.Shelf.Slices.In.SortNone
import Derived.Shelf.Slices.Empties
import Derived.Test.YtdbkhiobchkjjaaProg
set_option linter.unusedVariables false
set_option linter.unusedSimpArgs false
open Go Go.AL Go.RowKit
namespace Go.Proofs.Ytdbkhiobchkjjaa
set_option maxRecDepth 20000

/-! ### sorted, without repetitions -/
abbrev srt (o : List Int) : List Int := o.mergeSort fun x y => decide (x ≤ y)
theorem srt_perm (o : List Int) : (srt o).Perm o := List.mergeSort_perm o _
theorem srt_le (o : List Int) : (srt o).Pairwise (· ≤ ·) := by
  have h1 : (srt o).Pairwise (fun x y => decide (x ≤ y) = true) := List.pairwise_mergeSort (by simp; omega) (by simp; omega) o
  exact h1.imp fun h => by simpa using h
theorem arr_get (z : List Int) (i : Nat) (h : i < z.length) : z.toArray[i]! = z[i] := by simp [h]
theorem compact_pw {z : List Int} (h : z.Pairwise (· ≤ ·)) : (Lib.compact z).Pairwise (· < ·) := by
  unfold Lib.compact Lib.compactUpTo
  rw [List.pairwise_map]
  refine List.Pairwise.imp_of_mem ?_ (List.pairwise_lt_range.filter _)
  intro i j hi hj hij
  simp only [List.mem_filter, List.mem_range, Lib.keeps, decide_eq_true_eq] at hi hj
  have hj1 : j < z.length := hj.1
  have hk := hj.2.resolve_left (by omega)
  rw [arr_get z i hi.1, arr_get z j hj1]
  rw [arr_get z j hj1, arr_get z (j - 1) (by omega)] at hk
  have h1 := List.pairwise_iff_getElem.1 h (j - 1) j (by omega) hj.1 (by omega)
  rcases Nat.lt_or_ge i (j - 1) with h' | h'
  · have h2 := List.pairwise_iff_getElem.1 h i (j - 1) hi.1 (by omega) h'
    omega
  · have : i = j - 1 := by omega
    subst this
    omega
theorem compact_mem {z : List Int} {x : Int} : x ∈ Lib.compact z ↔ x ∈ z := by
  unfold Lib.compact Lib.compactUpTo
  simp only [List.mem_map, List.mem_filter, List.mem_range, Lib.keeps, decide_eq_true_eq]
  constructor
  · rintro ⟨i, hi, rfl⟩
    rw [arr_get z i hi.1]
    exact List.getElem_mem _
  · intro hx
    have key : ∀ k, k < z.length → ∀ (_ : z[k]? = some x), ∃ i, (i < z.length ∧ (i = 0 ∨ z.toArray[i]! ≠ z.toArray[i - 1]!)) ∧ z.toArray[i]! = x := by
      intro k
      induction k with
      | zero =>
        intro h0 e
        refine ⟨0, ⟨h0, .inl rfl⟩, ?_⟩
        rw [arr_get z 0 h0]
        rw [List.getElem?_eq_getElem h0] at e
        simpa using e
      | succ k ih =>
        intro hk e
        have e' : z[k + 1] = x := by rw [List.getElem?_eq_getElem hk] at e; simpa using e
        by_cases hp : z[k] = x
        · exact ih (by omega) (by rw [List.getElem?_eq_getElem (by omega), hp])
        · refine ⟨k + 1, ⟨hk, .inr ?_⟩, ?_⟩
          · rw [arr_get z (k + 1) hk, arr_get z (k + 1 - 1) (by omega)]
            simp only [Nat.add_sub_cancel]
            rw [e']; exact fun h => hp h.symm
          · rw [arr_get z (k + 1) hk]; exact e'
    obtain ⟨k, hk, e⟩ := List.getElem_of_mem hx
    exact key k hk (by rw [List.getElem?_eq_getElem hk, e])
/-- the states of a die -/
def stM (l : List Coin) (of num : Int) : List Int := (l.filter fun s => decide (sideD s of = num)).map fun s => sideS s of
def stV (l : List Coin) (of num : Int) : List Int := Lib.compact (srt (stM l of num))
theorem stV_pw (l : List Coin) (of num : Int) : (stV l of num).Pairwise (· < ·) := compact_pw (srt_le _)
theorem stV_mem {l : List Coin} {of num x : Int} : x ∈ stV l of num ↔ ∃ s ∈ l, sideD s of = num ∧ sideS s of = x := by
  unfold stV
  rw [compact_mem, (srt_perm _).mem_iff]
  unfold stM
  simp only [List.mem_map, List.mem_filter, decide_eq_true_eq]
  exact ⟨fun ⟨s, h, e⟩ => ⟨s, h.1, h.2, e⟩, fun ⟨s, h1, h2, e⟩ => ⟨s, ⟨h1, h2⟩, e⟩⟩
theorem pw_ext : ∀ {a b : List Int}, a.Pairwise (· < ·) → b.Pairwise (· < ·) → (∀ x, x ∈ a ↔ x ∈ b) → a = b
  | [], [], _, _, _ => rfl
  | [], y :: b, _, _, h => absurd ((h y).2 (by simp)) (by simp)
  | x :: a, [], _, _, h => absurd ((h x).1 (by simp)) (by simp)
  | x :: a, y :: b, ha, hb, h => by
    rw [List.pairwise_cons] at ha hb
    have h1 := (h x).1 (by simp)
    have h2 := (h y).2 (by simp)
    have e : x = y := by
      rcases List.mem_cons.1 h1 with e | h1
      · exact e
      · rcases List.mem_cons.1 h2 with e | h2
        · exact e.symm
        · have := ha.1 y h2; have := hb.1 x h1; omega
    subst e
    congr 1
    refine pw_ext ha.2 hb.2 fun z => ⟨fun hz => ?_, fun hz => ?_⟩
    · rcases List.mem_cons.1 ((h z).1 (List.mem_cons_of_mem _ hz)) with e | h'
      · have := ha.1 z hz; omega
      · exact h'
    · rcases List.mem_cons.1 ((h z).2 (List.mem_cons_of_mem _ hz)) with e | h'
      · have := hb.1 z hz; omega
      · exact h'
/-- the reference: the numbers 1 .. k that are states -/
def stR (l : List Coin) (of num : Int) (k : Nat) : List Int := ((List.range k).filter fun (v : Nat) => decide (∃ s ∈ l, sideD s of = num ∧ sideS s of = (v : Int) + 1)).map fun (v : Nat) => (v : Int) + 1
theorem stR_pw (l : List Coin) (of num : Int) (k : Nat) : (stR l of num k).Pairwise (· < ·) := by
  unfold stR
  rw [List.pairwise_map]
  exact (List.pairwise_lt_range.filter _).imp fun h => by omega
theorem stR_mem {l : List Coin} {of num x : Int} {k : Nat} : x ∈ stR l of num k ↔ 1 ≤ x ∧ x ≤ k ∧ ∃ s ∈ l, sideD s of = num ∧ sideS s of = x := by
  unfold stR
  simp only [List.mem_map, List.mem_filter, List.mem_range, decide_eq_true_eq]
  constructor
  · rintro ⟨v, ⟨h1, h2⟩, rfl⟩
    exact ⟨by omega, by omega, h2⟩
  · rintro ⟨h1, h2, h3⟩
    refine ⟨(x - 1).toNat, ⟨by omega, ?_⟩, by omega⟩
    rw [show (((x - 1).toNat : Nat) : Int) + 1 = x by omega]; exact h3
theorem sideS_rng {s : Coin} (h : validS s = true) (of : Int) : 1 ≤ sideS s of ∧ sideS s of ≤ 9 := by
  simp only [validS, inB, Bool.and_eq_true, decide_eq_true_eq] at h
  unfold sideS
  split <;> omega
theorem st_eq {l : List Coin} (h : ∀ s ∈ l, validS s = true) (of num : Int) : stV l of num = stR l of num 9 := by
  refine pw_ext (stV_pw ..) (stR_pw ..) fun x => ?_
  rw [stV_mem, stR_mem]
  constructor
  · rintro ⟨s, hs, h1, rfl⟩
    have := sideS_rng (h s hs) of
    exact ⟨this.1, this.2, s, hs, h1, rfl⟩
  · exact fun h => h.2.2
/-! ### ranks -/
def rank (S : List Int) (x : Int) : Int := (S.idxOf x : Int) + 1
theorem idxOf_nth {S : List Int} (h : S.Pairwise (· < ·)) {i : Nat} (hi : i < S.length) : S.idxOf S[i] = i := by
  have h1 : S.idxOf S[i] < S.length := List.idxOf_lt_length_iff.2 (List.getElem_mem _)
  have h2 : S[S.idxOf S[i]] = S[i] := List.getElem_idxOf h1
  rcases Nat.lt_trichotomy (S.idxOf S[i]) i with h' | h' | h'
  · have := List.pairwise_iff_getElem.1 h _ _ h1 hi h'; omega
  · exact h'
  · have := List.pairwise_iff_getElem.1 h _ _ hi h1 h'; omega
theorem rank_lt {S : List Int} (h : S.Pairwise (· < ·)) {x y : Int} (hx : x ∈ S) (hy : y ∈ S) : rank S x < rank S y ↔ x < y := by
  obtain ⟨i, hi, rfl⟩ := List.getElem_of_mem hx
  obtain ⟨j, hj, rfl⟩ := List.getElem_of_mem hy
  unfold rank
  rw [idxOf_nth h hi, idxOf_nth h hj]
  constructor
  · intro hij
    exact List.pairwise_iff_getElem.1 h i j hi hj (by omega)
  · intro hlt
    rcases Nat.lt_trichotomy i j with h' | h' | h'
    · omega
    · subst h'; omega
    · have := List.pairwise_iff_getElem.1 h j i hj hi h'; omega
theorem rank_rng {S : List Int} {x : Int} (hx : x ∈ S) : 1 ≤ rank S x ∧ rank S x ≤ S.length := by
  have := List.idxOf_lt_length_iff.2 hx
  unfold rank; omega
theorem rank_inj {S : List Int} (h : S.Pairwise (· < ·)) {x y : Int} (hx : x ∈ S) (hy : y ∈ S) : rank S x = rank S y ↔ x = y := by
  have h1 := rank_lt h hx hy
  have h2 := rank_lt h hy hx
  omega
/-- renumbered -/
def renC (l : List Coin) (s : Coin) : Coin := { s with ost := rank (stV l 0 s.obv) s.ost, rst := rank (stV l 1 s.rev) s.rst }
theorem ren_D (l : List Coin) (s : Coin) (of : Int) : sideD (renC l s) of = sideD s of := by unfold sideD renC; rfl
theorem ren_S (l : List Coin) (s : Coin) (of : Int) (ho : of = 0 ∨ of = 1) : sideS (renC l s) of = rank (stV l of (sideD s of)) (sideS s of) := by
  rcases ho with rfl | rfl <;> rfl
theorem mem_st {l : List Coin} {s : Coin} (hs : s ∈ l) (of : Int) : sideS s of ∈ stV l of (sideD s of) := stV_mem.2 ⟨s, hs, rfl, rfl⟩
theorem ren_before {l : List Coin} {s t : Coin} (hs : s ∈ l) (ht : t ∈ l) (of : Int) (ho : of = 0 ∨ of = 1) : before (renC l s) (renC l t) of = before s t of := by
  unfold before
  rw [ren_D, ren_D, ren_S l s of ho, ren_S l t of ho]
  by_cases e : sideD s of = sideD t of
  · rw [Bool.eq_iff_iff, Bool.and_eq_true, Bool.and_eq_true, decide_eq_true_eq, decide_eq_true_eq, decide_eq_true_eq, ← e]
    have h2 := mem_st ht of
    rw [← e] at h2
    rw [rank_lt (stV_pw ..) (mem_st hs of) h2]
  · simp [e]
theorem ren_same {l : List Coin} {s t : Coin} (hs : s ∈ l) (ht : t ∈ l) (of : Int) (ho : of = 0 ∨ of = 1) (e : sideD s of = sideD t of) : sideS (renC l s) of = sideS (renC l t) of ↔ sideS s of = sideS t of := by
  rw [ren_S l s of ho, ren_S l t of ho, ← e]
  have h2 := mem_st ht of
  rw [← e] at h2
  exact rank_inj (stV_pw ..) (mem_st hs of) h2
/-- the list renumbered -/
def renL (l : List Coin) : List Coin := l.map (renC l)
theorem renL_len (l : List Coin) : (renL l).length = l.length := by simp [renL]
theorem renL_nth (l : List Coin) {i : Nat} (h : i < l.length) : nth (renL l) i = renC l (nth l i) := by
  rw [nth_eq _ i (by rw [renL_len]; exact h), nth_eq l i h]
  simp [renL]
/-- the states behind: 1 .. k -/
theorem st_renL (l : List Coin) (of num : Int) (ho : of = 0 ∨ of = 1) : stV (renL l) of num = (List.range (stV l of num).length).map fun (v : Nat) => (v : Int) + 1 := by
  refine pw_ext (stV_pw ..) ?_ fun x => ?_
  · rw [List.pairwise_map]
    exact List.pairwise_lt_range.imp fun h => by omega
  · rw [stV_mem]
    simp only [List.mem_map, List.mem_range]
    constructor
    · rintro ⟨s, hs, h1, rfl⟩
      obtain ⟨t, ht, rfl⟩ := List.mem_map.1 hs
      rw [ren_D] at h1
      rw [ren_S l t of ho, h1]
      have hm := mem_st ht of
      rw [h1] at hm
      have := rank_rng hm
      exact ⟨(rank (stV l of num) (sideS t of) - 1).toNat, by omega, by omega⟩
    · rintro ⟨v, hv, rfl⟩
      have hm : (stV l of num)[v] ∈ stV l of num := List.getElem_mem _
      obtain ⟨s, hs, h1, h2⟩ := stV_mem.1 hm
      refine ⟨renC l s, List.mem_map.2 ⟨s, hs, rfl⟩, by rw [ren_D]; exact h1, ?_⟩
      rw [ren_S l s of ho, h1, h2]
      unfold rank
      rw [idxOf_nth (stV_pw ..) hv]
theorem rank_iota (k : Nat) {x : Int} (h1 : 1 ≤ x) (h2 : x ≤ k) : rank ((List.range k).map fun (v : Nat) => (v : Int) + 1) x = x := by
  have hpw : ((List.range k).map fun (v : Nat) => (v : Int) + 1).Pairwise (· < ·) := by
    rw [List.pairwise_map]
    exact List.pairwise_lt_range.imp fun h => by omega
  have hi : (x - 1).toNat < ((List.range k).map fun (v : Nat) => (v : Int) + 1).length := by simp; omega
  have := idxOf_nth hpw hi
  unfold rank
  rw [show ((List.range k).map fun (v : Nat) => (v : Int) + 1)[(x - 1).toNat] = x by simp; omega] at this
  rw [this]; omega
theorem ren_again (l : List Coin) : renL (renL l) = renL l := by
  unfold renL
  rw [List.map_map]
  refine List.map_congr_left fun s hs => ?_
  have key : ∀ of, of = 0 ∨ of = 1 → rank (stV (renL l) of (sideD s of)) (sideS (renC l s) of) = sideS (renC l s) of := fun of ho => by
    rw [st_renL l of _ ho, ren_S l s of ho]
    have := rank_rng (mem_st hs of)
    exact rank_iota _ this.1 this.2
  have e0 : rank (stV (renL l) 0 (renC l s).obv) (renC l s).ost = (renC l s).ost := key 0 (.inl rfl)
  have e1 : rank (stV (renL l) 1 (renC l s).rev) (renC l s).rst = (renC l s).rst := key 1 (.inr rfl)
  show renC (renL l) (renC l s) = renC l s
  calc renC (renL l) (renC l s) = Coin.mk (renC l s).id (renC l s).obv (renC l s).rev (rank (stV (renL l) 0 (renC l s).obv) (renC l s).ost) (rank (stV (renL l) 1 (renC l s).rev) (renC l s).rst) (renC l s).ax (renC l s).wt := rfl
    _ = renC l s := by rw [e0, e1]
theorem renL_valid {l : List Coin} (h : ∀ s ∈ l, validS s = true) : ∀ s ∈ renL l, validS s = true := by
  intro s hs
  obtain ⟨t, ht, rfl⟩ := List.mem_map.1 hs
  have key : ∀ of, of = 0 ∨ of = 1 → 1 ≤ sideS (renC l t) of ∧ sideS (renC l t) of ≤ 9 := fun of ho => by
    rw [ren_S l t of ho]
    have := rank_rng (mem_st ht of)
    have h9 : (stV l of (sideD t of)).length ≤ 9 := by
      rw [st_eq h]
      unfold stR
      rw [List.length_map]
      exact Nat.le_trans (List.length_filter_le _ _) (by simp)
    omega
  have k0 := key 0 (.inl rfl)
  have k1 := key 1 (.inr rfl)
  have hv := h t ht
  simp only [sideS, if_true] at k0 k1
  have e0 : (if (1 : Int) = 0 then (renC l t).ost else (renC l t).rst) = (renC l t).rst := by simp
  rw [e0] at k1
  simp only [validS, inB, Bool.and_eq_true, decide_eq_true_eq] at hv ⊢
  refine ⟨⟨⟨⟨⟨⟨?_, ?_⟩, ?_⟩, ?_⟩, ?_⟩, ?_⟩, ?_⟩
  · exact hv.1.1.1.1.1.1
  · exact hv.1.1.1.1.1.2
  · exact k0
  · exact k1
  · exact hv.1.1.2
  · exact hv.1.2
  · exact hv.2
theorem ids_renL (l : List Coin) : ∀ i, i ≤ l.length → ids (renL l) i = ids l i
  | 0, _ => rfl
  | i + 1, h => by
    have e : (nth (renL l) i).id = (nth l i).id := by rw [renL_nth l (by omega)]; rfl
    simp only [ids, e, ids_renL l i (by omega)]
theorem twice_renL (l : List Coin) : ∀ i, i ≤ l.length → twice (renL l) i = twice l i
  | 0, _ => rfl
  | i + 1, h => by
    have e : (nth (renL l) i).id = (nth l i).id := by rw [renL_nth l (by omega)]; rfl
    simp only [twice, e, ids_renL l i (by omega), twice_renL l i (by omega)]
theorem chk_renL {l : List Coin} (h : chk l = 0) : chk (renL l) = 0 := by
  unfold chk at h ⊢
  rw [renL_len, twice_renL l _ (Nat.le_refl _)]
  split at h
  · cases h
  · rename_i h1
    rw [if_neg h1]
    split at h
    · rename_i h2
      rw [if_pos]
      · exact h
      · rw [List.all_eq_true] at h2 ⊢
        exact renL_valid h2
    · cases h
theorem rowA_congr (l m : List Coin) (is : Coin → Coin → Bool) (hl : m.length = l.length) (h : ∀ i j, i < l.length → j < l.length → is (nth m i) (nth m j) = is (nth l i) (nth l j)) (i k0 : Nat) (hi : i < l.length) : ∀ k, k ≤ l.length → rowA m is i k0 k = rowA l is i k0 k := by
  intro k hk
  unfold rowA
  congr 1
  refine List.filter_congr fun j hj => ?_
  rw [List.mem_range] at hj
  rw [h i j hi (by omega)]
theorem allA_congr (l m : List Coin) (is : Coin → Coin → Bool) (hl : m.length = l.length) (h : ∀ i j, i < l.length → j < l.length → is (nth m i) (nth m j) = is (nth l i) (nth l j)) (st : Bool) : allA m is st m.length = allA l is st l.length := by
  unfold allA
  rw [hl]
  rw [List.flatMap_def, List.flatMap_def]
  congr 1
  refine List.map_congr_left fun i hi => ?_
  rw [List.mem_range] at hi
  exact rowA_congr l m is hl h i _ hi _ (Nat.le_refl _)
def same (s t : Coin) : Bool := decide (s.obv = t.obv) && decide (s.rev = t.rev) && decide (s.ost = t.ost) && decide (s.rst = t.rst)
theorem renL_is (l : List Coin) (is : Coin → Coin → Bool) (h : ∀ s ∈ l, ∀ t ∈ l, is (renC l s) (renC l t) = is s t) : ∀ i j, i < l.length → j < l.length → is (nth (renL l) i) (nth (renL l) j) = is (nth l i) (nth l j) := fun i j hi hj => by
  rw [renL_nth l hi, renL_nth l hj]
  exact h _ (nth_mem l i hi) _ (nth_mem l j hj)
theorem renL_before (l : List Coin) (of : Int) (ho : of = 0 ∨ of = 1) (st : Bool) : allA (renL l) (fun s t => before s t of) st (renL l).length = allA l (fun s t => before s t of) st l.length :=
  allA_congr l _ _ (renL_len l) (renL_is l _ fun s hs t ht => ren_before hs ht of ho) st
theorem renL_bef2 (l : List Coin) (st : Bool) : allA (renL l) bef2 st (renL l).length = allA l bef2 st l.length :=
  allA_congr l _ _ (renL_len l) (renL_is l _ fun s hs t ht => by unfold bef2; rw [ren_before hs ht 0 (.inl rfl), ren_before hs ht 1 (.inr rfl)]) st
theorem renL_clash (l : List Coin) (st : Bool) : allA (renL l) clash st (renL l).length = allA l clash st l.length :=
  allA_congr l _ _ (renL_len l) (renL_is l _ fun s hs t ht => by unfold clash; rw [ren_before hs ht 0 (.inl rfl), ren_before ht hs 1 (.inr rfl), ren_before ht hs 0 (.inl rfl), ren_before hs ht 1 (.inr rfl)]) st
theorem renL_same (l : List Coin) (st : Bool) : allA (renL l) same st (renL l).length = allA l same st l.length :=
  allA_congr l _ _ (renL_len l) (renL_is l _ fun s hs t ht => by
    have h0 := ren_same hs ht 0 (.inl rfl)
    have h1 := ren_same hs ht 1 (.inr rfl)
    simp only [sideD, sideS, if_true] at h0 h1
    have e : ((1 : Int) = 0) = False := by simp
    simp only [e, if_false] at h1
    unfold same
    rw [Bool.eq_iff_iff]
    simp only [Bool.and_eq_true, decide_eq_true_eq]
    have d0 : (renC l s).obv = s.obv ∧ (renC l t).obv = t.obv ∧ (renC l s).rev = s.rev ∧ (renC l t).rev = t.rev := ⟨rfl, rfl, rfl, rfl⟩
    rw [d0.1, d0.2.1, d0.2.2.1, d0.2.2.2]
    constructor
    · rintro ⟨⟨⟨a, b⟩, c⟩, d⟩; exact ⟨⟨⟨a, b⟩, (h0 a).1 c⟩, (h1 b).1 d⟩
    · rintro ⟨⟨⟨a, b⟩, c⟩, d⟩; exact ⟨⟨⟨a, b⟩, (h0 a).2 c⟩, (h1 b).2 d⟩) st
end Go.Proofs.Ytdbkhiobchkjjaa

namespace Go.Proofs
open Go.Shelf
def Try.lays189_ren : Go.Shelf.Ren := ⟨fun | 189 => 57 | 125 => 60 | 257 => 59 | 128 => 70 | 129 => 71 | 294 => 61 | 295 => 62 | 296 => 63 | 297 => 64 | 298 => 65 | 299 => 66 | 216 => 67 | 300 => 68 | 301 => 69 | 328 => 72 | 329 => 73 | 330 => 74 | 331 => 75 | 332 => 76 | 215 => 53 | 343 => 77 | n => n, fun | 28 => 48 | 3 => 3 | 46 => 77 | 0 => 0 | 51 => 88 | 53 => 90 | 4 => 4 | 183 => 80 | 182 => 79 | 131 => 85 | 5 => 5 | 9 => 9 | 218 => 91 | 222 => 95 | 228 => 97 | 229 => 59 | n => n, fun | n => n⟩
theorem Try.lays189 : Go.Proofs.Lays.n189 Try.prog Try.lays189_ren := {
  mixed := by kernel_rfl
  f125 := Try.func60.trans (congrArg some (by kernel_rfl))
  f128 := Try.func70.trans (congrArg some (by kernel_rfl))
  f129 := Try.func71.trans (congrArg some (by kernel_rfl))
  f189 := Try.func57.trans (congrArg some (by kernel_rfl))
  f215 := Try.func53.trans (congrArg some (by kernel_rfl))
  f216 := Try.func67.trans (congrArg some (by kernel_rfl))
  f257 := Try.func59.trans (congrArg some (by kernel_rfl))
  f294 := Try.func61.trans (congrArg some (by kernel_rfl))
  f295 := Try.func62.trans (congrArg some (by kernel_rfl))
  f296 := Try.func63.trans (congrArg some (by kernel_rfl))
  f297 := Try.func64.trans (congrArg some (by kernel_rfl))
  f298 := Try.func65.trans (congrArg some (by kernel_rfl))
  f299 := Try.func66.trans (congrArg some (by kernel_rfl))
  f300 := Try.func68.trans (congrArg some (by kernel_rfl))
  f301 := Try.func69.trans (congrArg some (by kernel_rfl))
  f328 := Try.func72.trans (congrArg some (by kernel_rfl))
  f329 := Try.func73.trans (congrArg some (by kernel_rfl))
  f330 := Try.func74.trans (congrArg some (by kernel_rfl))
  f331 := Try.func75.trans (congrArg some (by kernel_rfl))
  f332 := Try.func76.trans (congrArg some (by kernel_rfl))
  f343 := Try.func77.trans (congrArg some (by kernel_rfl))
  t0 := Try.underlying0
  a0 := Try.isAgg0
  z0 := Try.sizeOf0
  v0 := Try.zeroValue0
  t3 := Try.underlying3
  a3 := Try.isAgg3
  z3 := Try.sizeOf3
  v3 := Try.zeroValue3
  t4 := Try.underlying4
  a4 := Try.isAgg4
  z4 := Try.sizeOf4
  v4 := Try.zeroValue4
  t5 := Try.underlying5
  a5 := Try.isAgg5
  z5 := Try.sizeOf5
  v5 := Try.zeroValue5
  t9 := Try.underlying9
  a9 := Try.isAgg9
  z9 := Try.sizeOf9
  v9 := Try.zeroValue9
  t28 := Try.underlying48
  a28 := Try.isAgg48
  z28 := Try.sizeOf48
  v28 := Try.zeroValue48
  t46 := Try.underlying77
  a46 := Try.isAgg77
  z46 := Try.sizeOf77
  v46 := Try.zeroValue77
  t51 := Try.underlying88
  a51 := Try.isAgg88
  z51 := Try.sizeOf88
  v51 := Try.zeroValue88
  t53 := Try.underlying90
  a53 := Try.isAgg90
  z53 := Try.sizeOf90
  v53 := Try.zeroValue90
  t131 := Try.underlying85
  a131 := Try.isAgg85
  z131 := Try.sizeOf85
  v131 := Try.zeroValue85
  t182 := Try.underlying79
  a182 := Try.isAgg79
  z182 := Try.sizeOf79
  v182 := Try.zeroValue79
  t183 := Try.underlying80
  a183 := Try.isAgg80
  z183 := Try.sizeOf80
  v183 := Try.zeroValue80
  t218 := Try.underlying91
  a218 := Try.isAgg91
  z218 := Try.sizeOf91
  v218 := Try.zeroValue91
  t222 := Try.underlying95
  a222 := Try.isAgg95
  z222 := Try.sizeOf95
  v222 := Try.zeroValue95
  t228 := Try.underlying97
  a228 := Try.isAgg97
  z228 := Try.sizeOf97
  v228 := Try.zeroValue97
  t229 := Try.underlying59
  a229 := Try.isAgg59
  z229 := Try.sizeOf59
  v229 := Try.zeroValue59 }
open Go.Sort Go.RowKit in
theorem Try.slices_Sort_int (blk off cap : Nat) (zs : List Int) (w : World) (hH : Holds (Value.int .i64) w blk off zs.toArray) (hblk : blk < w.heap.size) (hsz : zs.length < 4611686018427387904) :
    Calls Try.prog 57 #[.slice (some ⟨blk, off, none⟩) zs.length cap] w fun e w' =>
      e = .returned (.tuple #[]) ∧ ∃ n os, w' = grow (putRow (Value.int .i64) (Sort.ahead w n) blk off (zs.mergeSort fun x y => decide (x ≤ y)).toArray) os := Any.slices_Sort_int Try.lays189 blk off cap zs w hH hblk hsz
def Try.laysNm220_ren : Go.Shelf.Ren := ⟨fun | 20 => 58 | n => n, fun | 22 => 48 | 3 => 3 | 4 => 4 | 0 => 0 | n => n, fun | n => n⟩
theorem Try.laysNm220 : Go.Proofs.Lays2.n20 Try.prog Try.laysNm220_ren := {
  mixed := by kernel_rfl
  f20 := Try.func58.trans (congrArg some (by kernel_rfl))
  t0 := Try.underlying0
  a0 := Try.isAgg0
  z0 := Try.sizeOf0
  v0 := Try.zeroValue0
  t3 := Try.underlying3
  a3 := Try.isAgg3
  z3 := Try.sizeOf3
  v3 := Try.zeroValue3
  t4 := Try.underlying4
  a4 := Try.isAgg4
  z4 := Try.sizeOf4
  v4 := Try.zeroValue4
  t22 := Try.underlying48
  a22 := Try.isAgg48
  z22 := Try.sizeOf48
  v22 := Try.zeroValue48
  i3 := by kernel_rfl }
open Go.RowKit Go.Lib Go.Sort in
theorem Try.slices_Compact_int (blk off cap : Nat) (zs : List Int) (w : World) (hH : Holds (Value.int .i64) w blk off zs.toArray) (hsz : zs.length ≤ 9223372036854775807) (hcap : zs.length ≤ cap) :
    Calls Try.prog 58 #[.slice (some ⟨blk, off, none⟩) zs.length cap] w fun e w' => e = .returned (.slice (some ⟨blk, off, none⟩) (Lib.compact zs).length cap) ∧ ∃ q, w' = putRow (Value.int .i64) (Sort.ahead w q) blk off (Lib.compact zs ++ List.replicate (zs.length - (Lib.compact zs).length) 0).toArray := Any.slices_Compact_int Try.laysNm220 blk off cap zs w hH hsz hcap
open Go.RowKit Go.Lib Go.Sort in
theorem Try.slices_Compact_int_empty (a : Option Addr) (cap : Nat) (w : World) :
    Calls Try.prog 58 #[.slice a 0 cap] w fun e w' => e = .returned (.slice a 0 cap) ∧ w' = w := Any.slices_Compact_int_empty Try.laysNm220 a cap w
open Go.RowKit Go.Sort in
theorem Try.slices_Sort_int_none (p : Option Addr) (cap : Nat) (w : World) :
    Calls Try.prog 57 #[.slice p 0 cap] w fun e w' => e = .returned (.tuple #[]) ∧ w' = w := Any.slices_Sort_int_none Try.lays189 p cap w
end Go.Proofs

