/-
  Lemmas for the proof: no statement of its own.
-/
import Derived.Test.YtlomngideedobaaPlainC
set_option linter.unusedVariables false
set_option linter.unusedSimpArgs false
-- P p_14.txt
open Go Go.AL Go.RowKit
namespace Go.Proofs.Ytlomngideedobaa
set_option maxRecDepth 20000
/-! ### all components -/
theorem numV_sub {l m : List Int} (h : numV l = true) (hs : m.Sublist l) : numV m = true := by
  have ha : ascV l = true := by unfold numV at h; simp only [Bool.and_eq_true] at h; exact h.1
  have hp := (ascV_asc ha).sublist hs
  have hb : ∀ x ∈ l, 1 ≤ x ∧ x ≤ 999 := fun x hx => by
    obtain ⟨i, hi, rfl⟩ := List.getElem_of_mem hx
    unfold ascV at ha
    simp only [decide_eq_true_eq] at ha
    have := ha i hi
    rw [nth_eq l i hi] at this
    exact ⟨this.1, this.2.1⟩
  unfold numV at h ⊢
  simp only [Bool.and_eq_true, decide_eq_true_eq] at h ⊢
  refine ⟨?_, Nat.le_trans hs.length_le h.2⟩
  unfold ascV
  simp only [decide_eq_true_eq]
  intro i hi
  have := hb _ (hs.mem (nth_mem' m i hi))
  refine ⟨this.1, this.2, fun h0 => ?_⟩
  rw [nth_eq m (i - 1) (by omega), nth_eq m i hi]
  exact List.pairwise_iff_getElem.1 hp (i - 1) i (by omega) hi (by omega)
theorem chT_ne {s : List (List Die)} {k : Int} {h : Nat} (hs : ∀ h, h < s.length → s.getD h [] ≠ []) (hh : h < (chT s k).length) (hk : h ≠ k.toNat) : (chT s k).getD h [] ≠ [] := by
  rw [chT_getD]
  refine hs h ?_
  unfold chT at hh
  split at hh
  · simp at hh; omega
  · exact hh
theorem chS_ne (ps : List Int) (l : List Die) : ∀ i h, h < (chS ps l i).length → (chS ps l i).getD h [] ≠ []
  | 0, h, hh => by simp [chS] at hh
  | i + 1, h, hh => by
    have ih := chS_ne ps l i
    simp only [chS, List.length_set] at hh ⊢
    by_cases e : h = (nth ps i).toNat
    · subst e
      simp only [List.getD] at *
      rw [List.getElem?_set_self hh]
      simp
    · have := chT_ne ih hh e
      simp only [List.getD] at this ⊢
      rw [List.getElem?_set_ne (fun h' => e h'.symm)]
      exact this
theorem pI_same (g : List Lk) (l : List Die) : ∀ m, m ≤ l.length → ∀ x y v, (pI g l m).f x = some v → (pI g l m).f y = some v → Jn g x y
  | 0, _, x, y, v, h, _ => by simp [pI, pS] at h
  | m + 1, hm, x, y, v, hx, hy => by
    have ih := pI_same g l m (by omega)
    obtain ⟨_, c2, _⟩ := pI_far g l m (by omega)
    rw [pI_succ g l m (by omega)] at hx hy
    unfold pstep at hx hy
    cases hf : (pI g l m).f (nth l m) with
    | some w => rw [hf] at hx hy; exact ih x y v hx hy
    | none =>
      rw [hf] at hx hy
      simp only [numS] at hx hy
      split at hx <;> split at hy
      · rename_i h1 h2
        exact (jn_eqv g).trans ((jn_eqv g).symm h1) h2
      · cases hx
        have := c2 _ _ hy; omega
      · cases hy
        have := c2 _ _ hx; omega
      · exact ih x y v hx hy
theorem nmF_same {g : Gr} {x y : Die} {v : Int} (hx : nmF g x = some v) (hy : nmF g y = some v) : Jn g.links x y := pI_same g.links (diesG g) _ (Nat.le_refl _) x y v hx hy
theorem nmF_in {g : Gr} (hv : validG g = true) {x : Die} (hx : x ∈ diesG g) : ∃ k : Nat, k < (chG g).length ∧ nmF g x = some (k : Int) := by
  obtain ⟨i, hi, rfl⟩ := List.getElem_of_mem hx
  rw [← nth_eq _ i hi, nmF_nth g i hi]
  have h1 := (pI_far g.links (diesG g) _ (Nat.le_refl _)).2.1 _ _ (by rw [← nmF.eq_def]; exact nmF_nth g i hi)
  have h2 : ((chG g).length : Int) = (pI g.links (diesG g) (diesG g).length).p := by unfold chG; rw [partsG_pI]; exact chS_p g.links (diesG g) _ (Nat.le_refl _)
  exact ⟨(nth (partsG g) i).toNat, by omega, by rw [Int.toNat_of_nonneg h1.1]⟩
section
variable {g : Gr} {k : Nat}
theorem part_obv (hv : validG g = true) (k : Nat) : (partR g (nth (chG g) k)).obv = g.obv.filter fun n => decide (nmF g (oD n) = some (k : Int)) := by
  show obvs (nth (chG g) k) = _
  rw [chG_filter hv, obvs_dies]
theorem part_rev (hv : validG g = true) (k : Nat) : (partR g (nth (chG g) k)).rev = g.rev.filter fun n => decide (nmF g (rD n) = some (k : Int)) := by
  show revs (nth (chG g) k) = _
  rw [chG_filter hv, revs_dies]
theorem part_links (hv : validG g = true) (k : Nat) : (partR g (nth (chG g) k)).links = g.links.filter fun x => decide (nmF g x.o = some (k : Int)) := by
  show lkIn (obvs (nth (chG g) k)) g.links = _
  unfold lkIn
  have hlk := valid_lk hv
  refine List.filter_congr fun x hx => ?_
  have : obvs (nth (chG g) k) = g.obv.filter fun n => decide (nmF g (oD n) = some (k : Int)) := part_obv hv k
  rw [this, decide_eq_decide, List.mem_filter]
  simp only [decide_eq_true_eq]
  exact ⟨fun h => h.2, fun h => ⟨(hlk x hx).2.2.1, h⟩⟩
theorem part_valid (hv : validG g = true) (k : Nat) : validG (partR g (nth (chG g) k)) = true := by
  obtain ⟨a, b, c, _⟩ := (validG_iff g).1 hv
  have hlk := valid_lk hv
  have hob := valid_obv hv
  have e1 := part_obv hv k
  have e2 := part_rev hv k
  have e3 := part_links hv k
  generalize partR g (nth (chG g) k) = h at *
  refine valid_mk (by rw [e1]; exact numV_sub a List.filter_sublist) (by rw [e2]; exact numV_sub b List.filter_sublist) (by rw [e3]; exact Nat.le_trans (List.length_filter_le _ _) c) (by rw [e3]; exact (valid_ids hv).sublist List.filter_sublist) (fun x hx => ?_) (fun n hn => ?_) (fun n hn => ?_)
  · rw [e3, List.mem_filter] at hx
    simp only [decide_eq_true_eq] at hx
    obtain ⟨p, q, r, s⟩ := hlk x hx.1
    rw [e1, e2, List.mem_filter, List.mem_filter]
    simp only [decide_eq_true_eq]
    exact ⟨p, q, ⟨r, hx.2⟩, s, (nm_or hx.1 _).1 hx.2⟩
  · rw [e1, List.mem_filter] at hn
    simp only [decide_eq_true_eq] at hn
    obtain ⟨x, h1, h2⟩ := hob.1 n hn.1
    refine ⟨x, ?_, h2⟩
    rw [e3, List.mem_filter]
    simp only [decide_eq_true_eq]
    exact ⟨h1, by subst h2; exact hn.2⟩
  · rw [e2, List.mem_filter] at hn
    simp only [decide_eq_true_eq] at hn
    obtain ⟨x, h1, h2⟩ := hob.2 n hn.1
    refine ⟨x, ?_, h2⟩
    rw [e3, List.mem_filter]
    simp only [decide_eq_true_eq]
    exact ⟨h1, (nm_or h1 _).2 (by subst h2; exact hn.2)⟩
theorem part_mem (hv : validG g = true) {d : Die} (hd : d ∈ nth (chG g) k) : d ∈ diesG (partR g (nth (chG g) k)) ∧ nmF g d = some (k : Int) := by
  have hd' := hd
  rw [chG_filter hv, List.mem_filter] at hd'
  simp only [decide_eq_true_eq] at hd'
  refine ⟨?_, hd'.2⟩
  unfold diesG
  rw [part_obv hv, part_rev hv]
  have h1 := hd'.1
  unfold diesG at h1
  rw [List.mem_append, List.mem_map, List.mem_map] at h1
  rw [List.mem_append, List.mem_map, List.mem_map]
  rcases h1 with ⟨n, hn, rfl⟩ | ⟨n, hn, rfl⟩
  · exact .inl ⟨n, by rw [List.mem_filter]; simp only [decide_eq_true_eq]; exact ⟨hn, hd'.2⟩, rfl⟩
  · exact .inr ⟨n, by rw [List.mem_filter]; simp only [decide_eq_true_eq]; exact ⟨hn, hd'.2⟩, rfl⟩
theorem part_walk (hv : validG g = true) {a b : Die} {n : Nat} (ha : nmF g a = some (k : Int)) (hw : Wk g.links a n b) : Wk (partR g (nth (chG g) k)).links a n b := by
  induction hw with
  | nil => exact .nil
  | @cons n u v hw' e ih =>
    obtain ⟨l, hl, e⟩ := e
    refine .cons ih ⟨l, ?_, e⟩
    have hu : nmF g u = some (k : Int) := nmF_closed g _ _ _ ha (jn_iff.2 ⟨n, hw'⟩)
    rw [part_links hv, List.mem_filter]
    simp only [decide_eq_true_eq]
    refine ⟨hl, ?_⟩
    rcases across_iff.1 e with ⟨rfl, _⟩ | ⟨rfl, _⟩
    · exact hu
    · exact (nm_or hl _).2 hu
theorem part_joined (hv : validG g = true) {a b : Die} (ha : a ∈ nth (chG g) k) (hb : b ∈ nth (chG g) k) : awayE (partR g (nth (chG g) k)) a b = 0 := by
  obtain ⟨a1, a2⟩ := part_mem hv ha
  obtain ⟨b1, b2⟩ := part_mem hv hb
  obtain ⟨n, hw⟩ := jn_iff.1 (nmF_same a2 b2)
  unfold awayE
  rw [part_valid hv k, if_pos rfl, if_pos ⟨a1, b1, jn_iff.2 ⟨n, part_walk hv a2 hw⟩⟩]
theorem part_two (hv : validG g = true) (hk : k < (chG g).length) : 2 ≤ (nth (chG g) k).length := by
  have hne : nth (chG g) k ≠ [] := by
    have := chS_ne (partsG g) (diesG g) (diesG g).length k hk
    exact this
  obtain ⟨d, hd⟩ := List.exists_mem_of_ne_nil _ hne
  have hob := valid_obv hv
  have hen := valid_ends hv
  have key : ∃ x ∈ g.links, nmF g x.o = some (k : Int) := by
    rw [chG_filter hv, List.mem_filter] at hd
    simp only [decide_eq_true_eq] at hd
    have h1 := hd.1
    unfold diesG at h1
    rw [List.mem_append, List.mem_map, List.mem_map] at h1
    rcases h1 with ⟨n, hn, rfl⟩ | ⟨n, hn, rfl⟩
    · obtain ⟨x, hx, rfl⟩ := hob.1 n hn
      exact ⟨x, hx, hd.2⟩
    · obtain ⟨x, hx, rfl⟩ := hob.2 n hn
      exact ⟨x, hx, (nm_or hx _).2 hd.2⟩
  obtain ⟨x, hx, hxk⟩ := key
  have mo : x.o ∈ nth (chG g) k := by
    rw [chG_filter hv, List.mem_filter]
    simp only [decide_eq_true_eq]
    exact ⟨(hen x hx).1, hxk⟩
  have mr : x.r ∈ nth (chG g) k := by
    rw [chG_filter hv, List.mem_filter]
    simp only [decide_eq_true_eq]
    exact ⟨(hen x hx).2, (nm_or hx _).1 hxk⟩
  generalize nth (chG g) k = c at *
  match c, mo, mr with
  | [], mo, _ => cases mo
  | [y], mo, mr =>
    simp at mo mr
    exact absurd (mo.trans mr.symm) (or_ne x x)
  | _ :: _ :: _, _, _ => simp
end
theorem obvs_revs_len (c : List Die) : (obvs c).length + (revs c).length = c.length := by
  unfold obvs revs
  rw [List.length_map, List.length_map]
  induction c with
  | nil => rfl
  | cons d c ih =>
    simp only [List.filter_cons]
    by_cases h : d.side = 0 <;> simp [h] <;> simp at ih <;> omega
def sumN (f : Nat → Nat) : Nat → Nat
  | 0 => 0
  | n + 1 => sumN f n + f n
theorem sumN_ind (v n : Nat) : sumN (fun k => if v = k then 1 else 0) n = if v < n then 1 else 0 := by
  induction n with
  | zero => rfl
  | succ n ih =>
    simp only [sumN, ih]
    by_cases h : v < n
    · rw [if_pos h, if_neg (by omega), if_pos (by omega)]
    · by_cases e : v = n
      · subst e; simp
      · rw [if_neg h, if_neg e, if_neg (by omega)]
theorem sumN_add (f h : Nat → Nat) (n : Nat) : sumN (fun k => f k + h k) n = sumN f n + sumN h n := by
  induction n with
  | zero => rfl
  | succ n ih => simp only [sumN, ih]; omega
theorem sumN_filter {α : Type} (φ : α → Option Int) (n : Nat) : ∀ l : List α, (∀ x ∈ l, ∃ k : Nat, k < n ∧ φ x = some (k : Int)) → sumN (fun k => (l.filter fun x => decide (φ x = some (k : Int))).length) n = l.length
  | [], _ => by
    simp only [List.filter_nil, List.length_nil]
    induction n with
    | zero => rfl
    | succ n ih => simp only [sumN]; rw [ih (by simp)]
  | x :: l, h => by
    have ih := sumN_filter φ n l fun y hy => h y (List.mem_cons_of_mem _ hy)
    obtain ⟨v, hv, e⟩ := h x (by simp)
    have e2 : (fun k : Nat => ((x :: l).filter fun x => decide (φ x = some (k : Int))).length) = fun k : Nat => (l.filter fun x => decide (φ x = some (k : Int))).length + if v = k then 1 else 0 := by
      funext k
      rw [List.filter_cons, e]
      by_cases hk : v = k
      · subst hk; simp
      · have : ¬ (v : Int) = (k : Int) := by omega
        simp [hk, this]
    rw [e2, sumN_add, ih, sumN_ind, if_pos hv]; simp
theorem all_sums {g : Gr} (hv : validG g = true) : sumN (fun k => (partR g (nth (chG g) k)).obv.length) (chG g).length = g.obv.length ∧ sumN (fun k => (partR g (nth (chG g) k)).rev.length) (chG g).length = g.rev.length ∧ sumN (fun k => (partR g (nth (chG g) k)).links.length) (chG g).length = g.links.length := by
  have hlk := valid_lk hv
  have hen := valid_ends hv
  simp only [part_obv hv, part_rev hv, part_links hv]
  refine ⟨sumN_filter (fun n => nmF g (oD n)) _ _ fun n hn => nmF_in hv ?_, sumN_filter (fun n => nmF g (rD n)) _ _ fun n hn => nmF_in hv ?_, sumN_filter (fun x : Lk => nmF g x.o) _ _ fun x hx => nmF_in hv (hen x hx).1⟩
  · unfold diesG; simp [hn]
  · unfold diesG; simp [hn]
theorem sumN_le {f : Nat → Nat} {b : Nat} (h : ∀ k, f k ≤ b) : ∀ n, sumN f n ≤ n * b
  | 0 => by simp [sumN]
  | n + 1 => by have := sumN_le h n; have := h n; simp only [sumN, Nat.succ_mul]; omega
end Go.Proofs.Ytlomngideedobaa

