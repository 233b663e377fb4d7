/-
  Lemmas for the proof: no statement of its own.
-/
import Derived.Test.YtgldpbghbkoolaaPlainD
import Derived.Test.YtgldpbghbkoolaaPlainB
set_option linter.unusedVariables false
set_option linter.unusedSimpArgs false
-- P p_15.txt
open Go Go.AL Go.RowKit
namespace Go.Proofs.Ytgldpbghbkoolaa
set_option maxRecDepth 20000
/-! ### dies that are joined without some links -/
def notIn (out : List Int) (ls : List Lk) : List Lk := ls.filter fun x => decide (x.id ∉ out)
abbrev Jn (g : List Lk) (x y : Die) : Prop := (dst g x y).isSome = true
theorem jn_iff {g : List Lk} {x y : Die} : Jn g x y ↔ ∃ n, Wk g x n y := by
  constructor
  · intro h
    obtain ⟨n, h⟩ := Option.isSome_iff_exists.1 h
    exact ⟨_, (dst_some.1 h).2.1⟩
  · rintro ⟨n, h⟩
    obtain ⟨m, _, hd⟩ := h.dist
    exact Option.isSome_iff_exists.2 ⟨m, dst_some.2 ⟨by omega, by simpa using hd⟩⟩
theorem jn_refl (g : List Lk) (x : Die) : Jn g x x := jn_iff.2 ⟨0, .nil⟩
theorem jn_step {g : List Lk} {x y z : Die} {l : Lk} (h : Jn g x y) (hl : l ∈ g) (ha : across l y = some z) : Jn g x z := by
  obtain ⟨n, hw⟩ := jn_iff.1 h
  exact jn_iff.2 ⟨n + 1, .cons hw ⟨l, hl, ha⟩⟩
theorem jn_keys {g : List Lk} {a b : Die} : Jn g a b ↔ b ∈ keysB (bfsA g a) := by
  unfold Jn dst
  constructor
  · intro h
    cases hl : lkB (bfsA g a) b with
    | some v =>
      have := lkB_mem hl
      exact List.mem_map.2 ⟨_, this, rfl⟩
    | none => rw [hl] at h; cases h
  · intro h
    cases hl : lkB (bfsA g a) b with
    | some v => rfl
    | none => exact absurd h (lkB_none.1 hl)
theorem notIn_take {out : List Int} {ls : List Lk} {i : Nat} (h : i < ls.length) : notIn out (ls.take (i + 1)) = notIn out (ls.take i) ++ if (nth ls i).id ∈ out then [] else [nth ls i] := by
  unfold notIn
  rw [List.take_succ_eq_append_getElem h, List.filter_append, nth_eq ls i h]
  congr 1
  simp only [List.filter_cons, List.filter_nil, decide_eq_true_eq, ite_not]
theorem notIn_sub {out : List Int} {ls : List Lk} {i : Nat} : ∀ l ∈ notIn out (ls.take i), l ∈ notIn out ls := fun l hl => by
  unfold notIn at *
  rw [List.mem_filter] at *
  exact ⟨List.mem_of_mem_take hl.1, hl.2⟩
/-! ### the least cut in plain words -/
theorem sumI_pos {f : Nat → Int} : ∀ m, 0 < sumI f m → ∃ k, k < m ∧ 0 < f k
  | 0, h => by simp [sumI] at h
  | m + 1, h => by
    simp only [sumI] at h
    by_cases hm : 0 < f m
    · exact ⟨m, by omega, hm⟩
    · obtain ⟨k, h1, h2⟩ := sumI_pos (f := f) m (by omega)
      exact ⟨k, by omega, h2⟩
theorem cutN_pos {es : Es} {gone : List Bool} {T : Nat → Bool} (h : 0 < cutN es gone T) : ∃ k, k < es.length ∧ nth gone k = false ∧ T (nth es k).1 ≠ T (nth es k).2 := by
  obtain ⟨k, h1, h2⟩ := sumI_pos _ h
  refine ⟨k, h1, ?_⟩
  by_cases hc : nth gone k = false ∧ T (nth es k).1 ≠ T (nth es k).2
  · exact hc
  · rw [if_neg hc] at h2; omega
theorem cutN_not (es : Es) (gone : List Bool) (T : Nat → Bool) : cutN es gone (fun v => !T v) = cutN es gone T := by
  unfold cutN
  refine sumI_congr _ fun k _ => ?_
  have : ((!T (nth es k).1) ≠ (!T (nth es k).2)) ↔ T (nth es k).1 ≠ T (nth es k).2 := by
    cases T (nth es k).1 <;> cases T (nth es k).2 <;> simp
  simp only [this]
theorem IsMC.symm {es : Es} {gone : List Bool} {a b : Nat} {v : Int} (h : IsMC es gone a b v) : IsMC es gone b a v := by
  obtain ⟨⟨T, t1, t2, t3⟩, h2⟩ := h
  refine ⟨⟨fun v => !T v, by simp [t2], by simp [t1], by rw [cutN_not]; exact t3⟩, fun U u1 u2 => ?_⟩
  rw [← cutN_not]
  exact h2 _ (by simp [u2]) (by simp [u1])
theorem flowE_symm (g : Gr) (a b : Die) : flowE g a b = flowE g b a := by
  have h : okV g a b = okV g b a := by
    unfold okV
    rw [decide_eq_decide]
    exact ⟨fun ⟨x, y, z⟩ => ⟨y, x, fun e => z e.symm⟩, fun ⟨x, y, z⟩ => ⟨y, x, fun e => z e.symm⟩⟩
  unfold flowE
  rw [h]
theorem flowV_symm (g : Gr) (a b : Die) : flowV g a b = flowV g b a := by
  by_cases h : flowE g a b = 0
  · have h' := h
    rw [flowE_symm] at h'
    obtain ⟨hv, ha, hb, hab⟩ := flowE_zero.1 h
    unfold flowV
    rw [if_pos h, if_pos h']
    exact (flow_mc (noG g) hv ha hb hab).uniq (flow_mc (noG g) hv hb ha (fun e => hab e.symm)).symm
  · have h' := h
    rw [flowE_symm] at h'
    rw [flowV_err h, flowV_err h']
theorem goneL_other {ls : List Lk} {out : List Int} {x : Int} (h : ∀ j, j < ls.length → (nth ls j).id ≠ x) : goneL ls (out ++ [x]) = goneL ls out := by
  refine list_ext_nth (by simp [goneL]) fun k hk => ?_
  have hk' : k < ls.length := by simpa [goneL] using hk
  rw [goneL_nth _ _ _ hk', goneL_nth _ _ _ hk']
  simp [h k hk']
theorem esG_nth {g : Gr} (hv : validG g = true) {k : Nat} (hk : k < g.links.length) : nth (esG g) k = (plN (diesG g) (nth g.links k).o, plN (diesG g) (nth g.links k).r) := by
  rw [esG_eq hv, esD_nth _ _ _ hk]
theorem cutI_pre (g : Gr) (a b : Die) (n : Int) {j : Nat} : ∀ m, j ≤ m → ∃ z, cutI g a b n m = cutI g a b n j ++ z
  | 0, h => by obtain rfl : j = 0 := by omega
               exact ⟨[], by simp⟩
  | m + 1, h => by
    by_cases e : j = m + 1
    · subst e; exact ⟨[], by simp⟩
    · obtain ⟨z, hz⟩ := cutI_pre g a b n (j := j) m (by omega)
      simp only [cutI]
      split
      · exact ⟨z ++ [(nth g.links m).id], by rw [hz, List.append_assoc]⟩
      · exact ⟨z, hz⟩
section
variable {g : Gr} {a b : Die} (hv : validG g = true)
include hv
theorem cut_one (out : List Int) (x : Int) (T : Nat → Bool) : cutN (esG g) (goneL g.links (out ++ [x])) T ≤ cutN (esG g) (goneL g.links out) T ∧ cutN (esG g) (goneL g.links out) T ≤ cutN (esG g) (goneL g.links (out ++ [x])) T + 1 := by
  by_cases h : ∃ j, j < g.links.length ∧ (nth g.links j).id = x
  · obtain ⟨j, hj, rfl⟩ := h
    rw [← goneL_set (valid_ids hv) out hj]
    have := cutN_set (es := esG g) (gone := goneL g.links out) (j := j) (by rw [esG_len]; exact hj) (by rw [esG_len, goneL_len]) T
    split at this <;> omega
  · rw [goneL_other (fun j hj e => h ⟨j, hj, e⟩)]; omega
theorem cut_app (T : Nat → Bool) : ∀ (z out : List Int), cutN (esG g) (goneL g.links (out ++ z)) T ≤ cutN (esG g) (goneL g.links out) T ∧ cutN (esG g) (goneL g.links out) T ≤ cutN (esG g) (goneL g.links (out ++ z)) T + z.length
  | [], out => by simp
  | x :: z, out => by
    have h1 := cut_one hv out x T
    have h2 := cut_app T z (out ++ [x])
    rw [List.append_assoc, List.singleton_append] at h2
    simp only [List.length_cons]
    omega
/-- joined exactly if the flow is not nothing -/
theorem jn_flow (ha : a ∈ diesG g) (hb : b ∈ diesG g) (hab : a ≠ b) (out : List Int) : Jn (notIn out g.links) a b ↔ 1 ≤ flowM g (goneL g.links out) a b := by
  have hmc := flow_mc (goneL g.links out) hv ha hb hab
  have hen := valid_ends hv
  constructor
  · intro hj
    obtain ⟨⟨T, t1, t2, t3⟩, _⟩ := hmc
    rw [← t3]
    have h0 := (cutN_le (esG g) (goneL g.links out) T).1
    rcases Int.lt_or_le 0 (cutN (esG g) (goneL g.links out) T) with h | h
    · exact h
    · exfalso
      have hz : cutN (esG g) (goneL g.links out) T = 0 := by omega
      have key : ∀ k, k < g.links.length → (nth g.links k).id ∉ out → T (plN (diesG g) (nth g.links k).o) = T (plN (diesG g) (nth g.links k).r) := fun k hk ho => by
        have hset := cutN_set (es := esG g) (gone := goneL g.links out) (j := k) (by rw [esG_len]; exact hk) (by rw [esG_len, goneL_len]) T
        have h1 := (cutN_le (esG g) ((goneL g.links out).set k true) T).1
        by_cases e : T (plN (diesG g) (nth g.links k).o) = T (plN (diesG g) (nth g.links k).r)
        · exact e
        · rw [if_pos ⟨by rw [goneL_nth _ _ _ hk]; simp [ho], by rw [esG_nth hv hk]; exact e⟩] at hset
          omega
      obtain ⟨n, hw⟩ := jn_iff.1 hj
      have : ∀ (n : Nat) (y : Die), Wk (notIn out g.links) a n y → T (plN (diesG g) y) = true := by
        intro n y hw
        induction hw with
        | nil => exact t1
        | cons _ e ih =>
          obtain ⟨l, hl, e⟩ := e
          unfold notIn at hl
          rw [List.mem_filter] at hl
          simp only [decide_eq_true_eq] at hl
          obtain ⟨k, hk, rfl⟩ := mem_nth hl.1
          have hT := key k hk hl.2
          rcases across_iff.1 e with ⟨rfl, rfl⟩ | ⟨rfl, rfl⟩
          · rw [← hT]; exact ih
          · rw [hT]; exact ih
      rw [this n b hw] at t2; cases t2
  · intro h1
    by_cases hj : Jn (notIn out g.links) a b
    · exact hj
    · exfalso
      have h2 := hmc.2 (fun i => (dst (notIn out g.links) a (nth (diesG g) i)).isSome) (by
        show (dst _ a (nth (diesG g) (plN (diesG g) a))).isSome = true
        rw [(plN_mem ha).2]; exact jn_refl _ _) (by
        show (dst _ a (nth (diesG g) (plN (diesG g) b))).isSome = false
        rw [(plN_mem hb).2]
        cases h : (dst (notIn out g.links) a b).isSome with
        | true => exact absurd h hj
        | false => rfl)
      have h3 : cutN (esG g) (goneL g.links out) (fun i => (dst (notIn out g.links) a (nth (diesG g) i)).isSome) = 0 := by
        rcases Int.lt_or_le 0 (cutN (esG g) (goneL g.links out) (fun i => (dst (notIn out g.links) a (nth (diesG g) i)).isSome)) with h | h
        · exfalso
          obtain ⟨k, hk, hg, hT⟩ := cutN_pos h
          have hk' : k < g.links.length := by rw [esG_len] at hk; exact hk
          have hm := nth_mem'' g.links k hk'
          rw [esG_nth hv hk'] at hT
          rw [goneL_nth _ _ _ hk'] at hg
          have ho := hen _ hm
          simp only [(plN_mem ho.1).2, (plN_mem ho.2).2] at hT
          have hin : nth g.links k ∈ notIn out g.links := by
            unfold notIn
            rw [List.mem_filter]
            exact ⟨hm, by simpa using hg⟩
          apply hT
          rw [Bool.eq_iff_iff]
          exact ⟨fun h => jn_step h hin (across_iff.2 (.inl ⟨rfl, rfl⟩)), fun h => jn_step h hin (across_iff.2 (.inr ⟨rfl, rfl⟩))⟩
        · have := (cutN_le (esG g) (goneL g.links out) (fun i => (dst (notIn out g.links) a (nth (diesG g) i)).isSome)).1
          omega
      omega
theorem flow_app (ha : a ∈ diesG g) (hb : b ∈ diesG g) (hab : a ≠ b) (z : List Int) : flowM g (noG g) a b ≤ flowM g (goneL g.links z) a b + z.length := by
  have h1 := flow_mc (noG g) hv ha hb hab
  obtain ⟨⟨T, t1, t2, t3⟩, _⟩ := flow_mc (goneL g.links z) hv ha hb hab
  have h2 := cut_app hv T z []
  rw [List.nil_append, goneL_nil] at h2
  have h3 := h1.2 T t1 t2
  omega
theorem cut_full (ha : a ∈ diesG g) (hb : b ∈ diesG g) (hab : a ≠ b) : ((cutI g a b (flowM g (noG g) a b) g.links.length).length : Int) = flowM g (noG g) a b := by
  have hF := cutI_flow hv ha hb hab g.links.length (Nat.le_refl _)
  obtain ⟨⟨T, t1, t2, t3⟩, _⟩ := flow_mc (goneL g.links (cutI g a b (flowM g (noG g) a b) g.links.length)) hv ha hb hab
  have h0 := (cutN_le (esG g) (goneL g.links (cutI g a b (flowM g (noG g) a b) g.links.length)) T).1
  rcases Int.lt_or_le 0 (cutN (esG g) (goneL g.links (cutI g a b (flowM g (noG g) a b) g.links.length)) T) with h | h
  · exfalso
    obtain ⟨k, hk, hg, hT⟩ := cutN_pos h
    have hk' : k < g.links.length := by rw [esG_len] at hk; exact hk
    generalize hn : flowM g (noG g) a b = n at *
    obtain ⟨z1, hz1⟩ := cutI_pre g a b n (j := k + 1) g.links.length (by omega)
    obtain ⟨z, hz⟩ := cutI_pre g a b n (j := k) g.links.length (by omega)
    rw [goneL_nth _ _ _ hk'] at hg
    have hnot : (nth g.links k).id ∉ cutI g a b n g.links.length := by simpa using hg
    have hsuc : cutI g a b n (k + 1) = if ((cutI g a b n k).length : Int) < n ∧ flowM g (goneL g.links (cutI g a b n k ++ [(nth g.links k).id])) a b < n - (cutI g a b n k).length then cutI g a b n k ++ [(nth g.links k).id] else cutI g a b n k := rfl
    have hlz : (cutI g a b n g.links.length).length = (cutI g a b n k).length + z.length := by rw [hz]; simp
    by_cases hc : ((cutI g a b n k).length : Int) < n ∧ flowM g (goneL g.links (cutI g a b n k ++ [(nth g.links k).id])) a b < n - (cutI g a b n k).length
    · rw [if_pos hc] at hsuc
      apply hnot
      rw [hz1, hsuc]; simp
    · have hm := (flow_mc (goneL g.links (cutI g a b n k ++ [(nth g.links k).id])) hv ha hb hab).2 T t1 t2
      have happ := (cut_app hv T z (cutI g a b n k)).2
      rw [← hz] at happ
      have hset := cutN_set (es := esG g) (gone := goneL g.links (cutI g a b n k)) (j := k) (by rw [esG_len]; exact hk') (by rw [esG_len, goneL_len]) T
      rw [goneL_set (valid_ids hv) _ hk'] at hset
      have hnk : (nth g.links k).id ∉ cutI g a b n k := fun h' => hnot (by rw [hz]; exact List.mem_append_left _ h')
      rw [if_pos ⟨by rw [goneL_nth _ _ _ hk']; simp [hnk], hT⟩] at hset
      apply hc
      constructor <;> omega
  · omega
end
end Go.Proofs.Ytgldpbghbkoolaa

