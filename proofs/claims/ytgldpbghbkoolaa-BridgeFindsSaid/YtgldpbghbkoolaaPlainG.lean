/-
  Lemmas for the proof: no statement of its own.
-/
import Derived.Test.YtgldpbghbkoolaaWalkL
set_option linter.unusedVariables false
set_option linter.unusedSimpArgs false
-- P p_15.txt
open Go Go.AL Go.RowKit
namespace Go.Proofs.Ytgldpbghbkoolaa
set_option maxRecDepth 20000
/-! ### what is in the groups -/
structure BsI (is : Nat → Bool) (cls : Nat → Nat) (ids : List Int) (k : Nat) (s : Bs) : Prop where
  nd : s.ks.Nodup
  len : s.ks.length = s.rows.length
  all : ∀ j, j < k → is j = false → cls j ∈ s.ks
  row : ∀ h x, x ∈ s.rows.getD h [] ↔ ∃ j, j < k ∧ is j = false ∧ nth ids j = x ∧ s.ks.idxOf (cls j) = h
theorem bsN_getD (s : Bs) (c h : Nat) : (bsN s c).rows.getD h [] = s.rows.getD h [] := by
  unfold bsN
  split
  · rfl
  · simp only [List.getD, List.getElem?_append]
    split
    · rfl
    · rename_i hh
      rw [List.getElem?_eq_none (l := s.rows) (by omega)]
      rcases hn : h - s.rows.length with _ | n <;> simp
theorem blS_inv (is : Nat → Bool) (cls : Nat → Nat) (ids : List Int) : ∀ k, BsI is cls ids k (blS is cls ids k)
  | 0 => ⟨by simp [blS], rfl, fun j hj => by omega, fun h x => by simp [blS, List.getD]⟩
  | k + 1 => by
    have ih := blS_inv is cls ids k
    simp only [blS]
    generalize blS is cls ids k = s at *
    unfold blK
    cases his : is k with
    | true =>
      rw [if_pos rfl]
      refine ⟨ih.nd, ih.len, fun j hj hf => ?_, fun h x => ?_⟩
      · rcases Nat.lt_succ_iff_lt_or_eq.1 hj with hj | rfl
        · exact ih.all j hj hf
        · rw [his] at hf; cases hf
      · rw [ih.row]
        constructor
        · rintro ⟨j, h1, h2⟩; exact ⟨j, by omega, h2⟩
        · rintro ⟨j, h1, h2, h3⟩
          rcases Nat.lt_succ_iff_lt_or_eq.1 h1 with h1 | rfl
          · exact ⟨j, h1, h2, h3⟩
          · rw [his] at h2; cases h2
    | false =>
      rw [if_neg (by simp)]
      have hT := bsT_lt ih.len (cls k)
      have hg := bsN_getD s (cls k)
      have hks : (bsN s (cls k)).ks.Nodup ∧ (bsN s (cls k)).ks.length = (bsN s (cls k)).rows.length ∧ cls k ∈ (bsN s (cls k)).ks ∧ (bsN s (cls k)).ks.idxOf (cls k) = bsT s (cls k) ∧ ∀ c ∈ s.ks, c ∈ (bsN s (cls k)).ks ∧ (bsN s (cls k)).ks.idxOf c = s.ks.idxOf c := by
        unfold bsN bsT
        by_cases hc : cls k ∈ s.ks
        · rw [if_pos hc, if_pos hc]
          exact ⟨ih.nd, ih.len, hc, rfl, fun c h => ⟨h, rfl⟩⟩
        · rw [if_neg hc, if_neg hc]
          refine ⟨?_, by simp [ih.len], by simp, ?_, fun c h => ⟨by simp [h], ?_⟩⟩
          · rw [List.nodup_append]
            exact ⟨ih.nd, by simp, fun u hu v hv => by simp at hv; subst hv; exact fun e => hc (e ▸ hu)⟩
          · rw [List.idxOf_append, if_neg hc]; simp
          · rw [List.idxOf_append, if_pos h]
      obtain ⟨q1, q2, q3, q4, q5⟩ := hks
      refine ⟨q1, by simp [q2], fun j hj hf => ?_, fun h x => ?_⟩
      · rcases Nat.lt_succ_iff_lt_or_eq.1 hj with hj | rfl
        · exact (q5 _ (ih.all j hj hf)).1
        · exact q3
      · have e : ((bsN s (cls k)).rows.set (bsT s (cls k)) ((bsN s (cls k)).rows.getD (bsT s (cls k)) [] ++ [nth ids k])).getD h [] = if h = bsT s (cls k) then s.rows.getD h [] ++ [nth ids k] else s.rows.getD h [] := by
          rw [← hg h]
          simp only [List.getD, List.getElem?_set]
          by_cases e : bsT s (cls k) = h
          · subst e; rw [if_pos rfl, if_pos hT, if_pos rfl]; rfl
          · rw [if_neg e, if_neg (fun h' => e h'.symm)]
        simp only [e]
        constructor
        · intro hx
          have hold : x ∈ s.rows.getD h [] → ∃ j, j < k + 1 ∧ is j = false ∧ nth ids j = x ∧ (bsN s (cls k)).ks.idxOf (cls j) = h := fun hx => by
            obtain ⟨j, h1, h2, h3, h4⟩ := (ih.row h x).1 hx
            exact ⟨j, by omega, h2, h3, by rw [(q5 _ (ih.all j h1 h2)).2]; exact h4⟩
          split at hx
          · rename_i hh
            rcases List.mem_append.1 hx with hx | hx
            · exact hold hx
            · exact ⟨k, by omega, his, (List.mem_singleton.1 hx).symm, by rw [q4, hh]⟩
          · exact hold hx
        · rintro ⟨j, h1, h2, h3, h4⟩
          rcases Nat.lt_succ_iff_lt_or_eq.1 h1 with h1 | rfl
          · have hx : x ∈ s.rows.getD h [] := (ih.row h x).2 ⟨j, h1, h2, h3, by rw [← (q5 _ (ih.all j h1 h2)).2]; exact h4⟩
            split
            · exact List.mem_append_left _ hx
            · exact hx
          · rw [q4] at h4
            rw [if_pos h4.symm]
            exact List.mem_append_right _ (by simp [h3])
theorem isG_nth {g : Gr} {k : Nat} (hk : k < g.links.length) : nth (isG g) k = brB (esG g) (nG g) k := by
  have hl := esG_len g
  unfold isG
  rw [nth_eq _ k (by simp [brL]; omega)]; simp [brL]
theorem ids_nth {g : Gr} {k : Nat} (hk : k < g.links.length) : nth (idsG g) k = (nth g.links k).id := by
  rw [nth_eq _ k (by simpa [idsG] using hk), nth_eq _ k hk]; simp [idsG]
theorem br_mem {g : Gr} (hv : validG g = true) {i : Nat} (hi : i < g.links.length) : (nth g.links i).id ∈ bridgesG g ↔ brB (esG g) (nG g) i = true := by
  unfold bridgesG brI
  rw [List.mem_map]
  simp only [List.mem_filter, List.mem_range]
  constructor
  · rintro ⟨j, ⟨h1, h2⟩, h3⟩
    rw [ids_nth h1] at h3
    obtain rfl := id_inj (valid_ids hv) h1 hi h3
    exact h2
  · intro h
    exact ⟨i, ⟨hi, h⟩, ids_nth hi⟩
end Go.Proofs.Ytgldpbghbkoolaa

