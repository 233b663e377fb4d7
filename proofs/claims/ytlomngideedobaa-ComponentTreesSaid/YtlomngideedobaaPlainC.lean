/-
  Lemmas for the proof: no statement of its own.
-/
import Derived.Test.YtlomngideedobaaWalkF
import Derived.Test.YtlomngideedobaaWalkJ
set_option linter.unusedVariables false
set_option linter.unusedSimpArgs false
-- P p_14.txt
open Go Go.AL Go.RowKit
namespace Go.Proofs.Ytlomngideedobaa
/-! ### how many classes a list meets -/
open Classical in
/-- 1 if it holds -/
noncomputable def sg (p : Prop) : Nat := if p then 1 else 0
theorem sg_pos {p : Prop} (h : p) : sg p = 1 := by unfold sg; exact if_pos h
theorem sg_neg {p : Prop} (h : ¬ p) : sg p = 0 := by unfold sg; exact if_neg h
/-- the number of classes of C that a list meets -/
noncomputable def cc {α : Type} (C : α → α → Prop) : List α → Nat
  | [] => 0
  | x :: l => cc C l + sg (¬ ∃ y ∈ l, C x y)
structure Eqv {α : Type} (C : α → α → Prop) : Prop where
  rfl : ∀ x, C x x
  symm : ∀ {x y}, C x y → C y x
  trans : ∀ {x y z}, C x y → C y z → C x z
/-- C' is C with the classes of a and b made one -/
structure Joins {α : Type} (C C' : α → α → Prop) (a b : α) : Prop where
  iff : ∀ x y, C' x y ↔ C x y ∨ (C x a ∧ C b y) ∨ (C x b ∧ C a y)
theorem cc_congr {α : Type} {C C' : α → α → Prop} : ∀ (l : List α), (∀ x ∈ l, ∀ y ∈ l, C x y ↔ C' x y) → cc C l = cc C' l
  | [], _ => rfl
  | x :: l, h => by
    have ih := cc_congr l fun u hu v hv => h u (List.mem_cons_of_mem _ hu) v (List.mem_cons_of_mem _ hv)
    have e : (∃ y ∈ l, C x y) ↔ ∃ y ∈ l, C' x y := ⟨fun ⟨y, h1, h2⟩ => ⟨y, h1, (h x (by simp) y (List.mem_cons_of_mem _ h1)).1 h2⟩, fun ⟨y, h1, h2⟩ => ⟨y, h1, (h x (by simp) y (List.mem_cons_of_mem _ h1)).2 h2⟩⟩
    simp only [cc, ih, e]
theorem Joins.same {α : Type} {C C' : α → α → Prop} {a b : α} (hC : Eqv C) (h : Joins C C' a b) (hab : C a b) (x y : α) : C' x y ↔ C x y := by
  rw [h.iff]
  constructor
  · rintro (h1 | ⟨h1, h2⟩ | ⟨h1, h2⟩)
    · exact h1
    · exact hC.trans h1 (hC.trans hab h2)
    · exact hC.trans h1 (hC.trans (hC.symm hab) h2)
  · exact .inl
theorem cc_join {α : Type} {C C' : α → α → Prop} {a b : α} (hC : Eqv C) (h : Joins C C' a b) (hab : ¬ C a b) : ∀ l : List α, cc C l = cc C' l + sg ((∃ y ∈ l, C a y) ∧ ∃ y ∈ l, C b y)
  | [] => by
    rw [sg_neg (fun h => by obtain ⟨⟨y, h, _⟩, _⟩ := h; cases h)]; rfl
  | x :: l => by
    have ih := cc_join hC h hab l
    have eA : (∃ y ∈ x :: l, C a y) ↔ C a x ∨ ∃ y ∈ l, C a y := by simp
    have eB : (∃ y ∈ x :: l, C b y) ↔ C b x ∨ ∃ y ∈ l, C b y := by simp
    have e' : (∃ y ∈ l, C' x y) ↔ (∃ y ∈ l, C x y) ∨ (C x a ∧ ∃ y ∈ l, C b y) ∨ (C x b ∧ ∃ y ∈ l, C a y) := by
      simp only [h.iff]
      constructor
      · rintro ⟨y, h1, h2 | ⟨h2, h3⟩ | ⟨h2, h3⟩⟩
        · exact .inl ⟨y, h1, h2⟩
        · exact .inr (.inl ⟨h2, y, h1, h3⟩)
        · exact .inr (.inr ⟨h2, y, h1, h3⟩)
      · rintro (⟨y, h1, h2⟩ | ⟨h2, y, h1, h3⟩ | ⟨h2, y, h1, h3⟩)
        · exact ⟨y, h1, .inl h2⟩
        · exact ⟨y, h1, .inr (.inl ⟨h2, h3⟩)⟩
        · exact ⟨y, h1, .inr (.inr ⟨h2, h3⟩)⟩
    simp only [cc, ih, eA, eB, e']
    by_cases ha : C x a
    · have hb : ¬ C x b := fun hb => hab (hC.trans (hC.symm ha) hb)
      have eX : (∃ y ∈ l, C x y) ↔ ∃ y ∈ l, C a y := ⟨fun ⟨y, h1, h2⟩ => ⟨y, h1, hC.trans (hC.symm ha) h2⟩, fun ⟨y, h1, h2⟩ => ⟨y, h1, hC.trans ha h2⟩⟩
      have ha' := hC.symm ha
      have hb' : ¬ C b x := fun h' => hb (hC.symm h')
      rw [eX]
      by_cases hA : ∃ y ∈ l, C a y <;> by_cases hB : ∃ y ∈ l, C b y <;> simp only [ha, hb, ha', hb', hA, hB, true_or, or_true, true_and, and_true, false_and, and_false, or_false, false_or, not_true, not_false_iff, sg_pos, sg_neg] <;> omega
    · by_cases hb : C x b
      · have eX : (∃ y ∈ l, C x y) ↔ ∃ y ∈ l, C b y := ⟨fun ⟨y, h1, h2⟩ => ⟨y, h1, hC.trans (hC.symm hb) h2⟩, fun ⟨y, h1, h2⟩ => ⟨y, h1, hC.trans hb h2⟩⟩
        have hb' := hC.symm hb
        have ha' : ¬ C a x := fun h' => ha (hC.symm h')
        rw [eX]
        by_cases hA : ∃ y ∈ l, C a y <;> by_cases hB : ∃ y ∈ l, C b y <;> simp only [ha, hb, ha', hb', hA, hB, true_or, or_true, true_and, and_true, false_and, and_false, or_false, false_or, not_true, not_false_iff, sg_pos, sg_neg] <;> omega
      · have ha' : ¬ C a x := fun h' => ha (hC.symm h')
        have hb' : ¬ C b x := fun h' => hb (hC.symm h')
        simp only [ha, hb, ha', hb', false_and, false_or, or_false]
        omega
/-- all classes are met, and nothing joined: as many classes as elements -/
theorem cc_discrete {α : Type} {C : α → α → Prop} : ∀ (l : List α), l.Nodup → (∀ x ∈ l, ∀ y ∈ l, C x y → x = y) → cc C l = l.length
  | [], _, _ => rfl
  | x :: l, hn, h => by
    rw [List.nodup_cons] at hn
    have ih := cc_discrete l hn.2 fun u hu v hv => h u (List.mem_cons_of_mem _ hu) v (List.mem_cons_of_mem _ hv)
    have : ¬ ∃ y ∈ l, C x y := fun ⟨y, h1, h2⟩ => hn.1 (by rw [h x (by simp) y (List.mem_cons_of_mem _ h1) h2]; exact h1)
    simp only [cc, ih, sg_pos this, List.length_cons]
/-! ### joined dies -/
abbrev Jn (g : List Lk) (x y : Die) : Prop := (dst g x y).isSome = true
theorem jn_iff {g : List Lk} {x y : Die} : Jn g x y ↔ ∃ n, Wk g x n y := by
  constructor
  · intro h
    obtain ⟨n, h⟩ := Option.isSome_iff_exists.1 h
    exact ⟨_, (dst_some.1 h).2.1⟩
  · rintro ⟨n, h⟩
    obtain ⟨m, _, hd⟩ := h.dist
    exact Option.isSome_iff_exists.2 ⟨m, dst_some.2 ⟨by omega, by simpa using hd⟩⟩
theorem jn_eqv (g : List Lk) : Eqv (Jn g) where
  rfl := fun x => by show (dst g x x).isSome = true; rw [dst_self]; rfl
  symm := fun {x y} h => by show (dst g y x).isSome = true; rw [dst_symm]; exact h
  trans := fun h k => dst_via h k
theorem jn_lk {g : List Lk} {x : Lk} (h : x ∈ g) : Jn g x.o x.r := jn_iff.2 ⟨1, .cons .nil ⟨x, h, across_iff.2 (.inl ⟨rfl, rfl⟩)⟩⟩
theorem jn_mono {g h : List Lk} (hs : ∀ l ∈ g, l ∈ h) {x y : Die} (hj : Jn g x y) : Jn h x y := by
  obtain ⟨n, hw⟩ := jn_iff.1 hj
  refine jn_iff.2 ⟨n, ?_⟩
  clear hj
  induction hw with
  | nil => exact .nil
  | cons _ e ih =>
    obtain ⟨l, hl, e⟩ := e
    exact .cons ih ⟨l, hs l hl, e⟩
theorem jn_nil {x y : Die} (h : Jn [] x y) : x = y := by
  obtain ⟨n, h⟩ := jn_iff.1 h
  cases h with
  | nil => rfl
  | cons _ e => obtain ⟨l, hl, _⟩ := e; cases hl
theorem jn_add {g h : List Lk} {k : Lk} (hs : ∀ l, l ∈ h ↔ l ∈ g ∨ l = k) : Joins (Jn g) (Jn h) k.o k.r := by
  have eq := jn_eqv g
  have eq' := jn_eqv h
  refine ⟨fun x y => ⟨fun hj => ?_, ?_⟩⟩
  · obtain ⟨n, hw⟩ := jn_iff.1 hj
    clear hj
    induction hw with
    | nil => exact .inl (eq.rfl _)
    | @cons n u v _ e ih =>
      obtain ⟨l, hl, e⟩ := e
      rcases (hs l).1 hl with hl | rfl
      · have huv : Jn g u v := jn_iff.2 ⟨1, .cons .nil ⟨l, hl, e⟩⟩
        rcases ih with h1 | ⟨h1, h2⟩ | ⟨h1, h2⟩
        · exact .inl (eq.trans h1 huv)
        · exact .inr (.inl ⟨h1, eq.trans h2 huv⟩)
        · exact .inr (.inr ⟨h1, eq.trans h2 huv⟩)
      · rcases across_iff.1 e with ⟨rfl, rfl⟩ | ⟨rfl, rfl⟩
        · rcases ih with h1 | ⟨h1, h2⟩ | ⟨h1, h2⟩
          · exact .inr (.inl ⟨h1, eq.rfl _⟩)
          · exact .inr (.inl ⟨h1, eq.rfl _⟩)
          · exact .inl h1
        · rcases ih with h1 | ⟨h1, h2⟩ | ⟨h1, h2⟩
          · exact .inr (.inr ⟨h1, eq.rfl _⟩)
          · exact .inl h1
          · exact .inr (.inr ⟨h1, eq.rfl _⟩)
  · have hm : ∀ l ∈ g, l ∈ h := fun l hl => (hs l).2 (.inl hl)
    have hk := jn_lk ((hs k).2 (.inr rfl))
    rintro (h1 | ⟨h1, h2⟩ | ⟨h1, h2⟩)
    · exact jn_mono hm h1
    · exact eq'.trans (jn_mono hm h1) (eq'.trans hk (jn_mono hm h2))
    · exact eq'.trans (jn_mono hm h1) (eq'.trans (eq'.symm hk) (jn_mono hm h2))
theorem pI_dom (g : List Lk) (l : List Die) : ∀ m, m ≤ l.length → ∀ x v, (pI g l m).f x = some v → ∃ y ∈ l.take m, Jn g y x
  | 0, _, x, v, h => by simp [pI, pS] at h
  | m + 1, hm, x, v, h => by
    have ih := pI_dom g l m (by omega)
    rw [List.take_succ_eq_append_getElem (by omega : m < l.length)]
    rw [pI_succ g l m (by omega)] at h
    unfold pstep at h
    split at h
    · obtain ⟨y, h1, h2⟩ := ih x v h
      exact ⟨y, List.mem_append_left _ h1, h2⟩
    · simp only [numS] at h
      split at h
      · rename_i hd
        exact ⟨_, List.mem_append_right _ (List.mem_singleton.2 rfl), by rw [← nth_eq l m (by omega)]; exact hd⟩
      · obtain ⟨y, h1, h2⟩ := ih x v h
        exact ⟨y, List.mem_append_left _ h1, h2⟩
/-- the number of components is the number of classes -/
theorem pI_cc (g : List Lk) (l : List Die) : ∀ i, i ≤ l.length → (pI g l i).p = cc (Jn g) (l.take i).reverse
  | 0, _ => by simp [pI, pS, cc]
  | i + 1, h => by
    have ih := pI_cc g l i (by omega)
    obtain ⟨c1, c2, c3⟩ := pI_far g l i (by omega)
    rw [pI_succ g l i (by omega), List.take_succ_eq_append_getElem (by omega : i < l.length), List.reverse_append, List.reverse_singleton, List.singleton_append]
    rw [← nth_eq l i (by omega)]
    simp only [cc]
    unfold pstep
    split
    · rename_i v hv
      obtain ⟨y, h1, h2⟩ := pI_dom g l i (by omega) _ _ hv
      rw [sg_neg (fun h => h ⟨y, List.mem_reverse.2 h1, (jn_eqv g).symm h2⟩), ih]; rfl
    · rename_i hv
      rw [sg_pos]
      · simp only [ih]; omega
      · rintro ⟨y, h1, h2⟩
        obtain ⟨j, hj, e⟩ := List.getElem_of_mem (List.mem_reverse.1 h1)
        simp at hj
        rw [List.getElem_take, ← nth_eq l j (by omega)] at e
        have h3 := c3 j (by omega)
        rw [e] at h3
        have := c1 _ _ _ h3 ((jn_eqv g).symm h2)
        rw [this] at hv; cases hv
end Go.Proofs.Ytlomngideedobaa

-- P p_14.txt
open Go Go.AL Go.RowKit
namespace Go.Proofs.Ytlomngideedobaa
set_option maxRecDepth 20000
/-! ### one more link -/
theorem valid_mk {g : Gr} (h1 : numV g.obv = true) (h2 : numV g.rev = true) (h3 : g.links.length ≤ 64) (h4 : g.links.Pairwise fun x y => x.id < y.id) (h5 : ∀ x ∈ g.links, 1 ≤ x.id ∧ x.id ≤ 9999 ∧ x.obv ∈ g.obv ∧ x.rev ∈ g.rev) (h6 : ∀ n ∈ g.obv, ∃ x ∈ g.links, x.obv = n) (h7 : ∀ n ∈ g.rev, ∃ x ∈ g.links, x.rev = n) : validG g = true := by
  rw [validG_iff]
  refine ⟨h1, h2, h3, fun i hi => ?_, fun n hn => by simpa using h6 n hn, fun n hn => by simpa using h7 n hn⟩
  obtain ⟨a, b, c, d⟩ := h5 _ (nth_mem' g.links i hi)
  refine ⟨a, b, fun h0 => ?_, c, d⟩
  rw [nth_eq _ (i - 1) (by omega), nth_eq _ i hi]
  exact List.pairwise_iff_getElem.1 h4 (i - 1) i (by omega) hi (by omega)
theorem valid_lk {g : Gr} (hv : validG g = true) : ∀ x ∈ g.links, 1 ≤ x.id ∧ x.id ≤ 9999 ∧ x.obv ∈ g.obv ∧ x.rev ∈ g.rev := by
  obtain ⟨_, _, _, hl, _⟩ := (validG_iff g).1 hv
  intro x hx
  obtain ⟨i, hi, rfl⟩ := List.getElem_of_mem hx
  have := hl i hi
  unfold lkV at this
  rw [nth_eq _ i hi] at this
  exact ⟨this.1, this.2.1, this.2.2.2.1, this.2.2.2.2⟩
theorem chG_cc {g : Gr} : (chG g).length = cc (Jn g.links) (diesG g).reverse := by
  have h1 : ((chG g).length : Int) = (pI g.links (diesG g) (diesG g).length).p := by unfold chG; rw [partsG_pI]; exact chS_p g.links (diesG g) _ (Nat.le_refl _)
  rw [pI_cc g.links (diesG g) _ (Nat.le_refl _), List.take_length] at h1
  omega
end Go.Proofs.Ytlomngideedobaa

