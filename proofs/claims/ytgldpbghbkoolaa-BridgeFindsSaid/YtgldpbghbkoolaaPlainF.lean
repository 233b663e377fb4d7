/-
  Lemmas for the proof: no statement of its own.
-/
import Derived.Test.YtgldpbghbkoolaaPlainE
import Derived.Test.YtgldpbghbkoolaaWalkF
set_option linter.unusedVariables false
set_option linter.unusedSimpArgs false
-- P p_15.txt
open Go Go.AL Go.RowKit
namespace Go.Proofs.Ytgldpbghbkoolaa
set_option maxRecDepth 20000
/-! ### how many classes a list meets -/
open Classical in
/-- 1 if it holds -/
noncomputable def sg (p : Prop) : Nat := if p then 1 else 0
theorem sg_pos {p : Prop} (h : p) : sg p = 1 := by unfold sg; exact if_pos h
theorem sg_neg {p : Prop} (h : ¬ p) : sg p = 0 := by unfold sg; exact if_neg h
/-- the number of classes of C that a list meets -/
noncomputable def cc {α : Type} (C : α → α → Prop) : List α → Nat
  | [] => 0
  | x :: l => cc C l + sg (¬ ∃ y ∈ l, C x y)
structure Eqv {α : Type} (C : α → α → Prop) : Prop where
  rfl : ∀ x, C x x
  symm : ∀ {x y}, C x y → C y x
  trans : ∀ {x y z}, C x y → C y z → C x z
/-- C' is C with the classes of a and b made one -/
structure Joins {α : Type} (C C' : α → α → Prop) (a b : α) : Prop where
  iff : ∀ x y, C' x y ↔ C x y ∨ (C x a ∧ C b y) ∨ (C x b ∧ C a y)
theorem cc_congr {α : Type} {C C' : α → α → Prop} : ∀ (l : List α), (∀ x ∈ l, ∀ y ∈ l, C x y ↔ C' x y) → cc C l = cc C' l
  | [], _ => rfl
  | x :: l, h => by
    have ih := cc_congr l fun u hu v hv => h u (List.mem_cons_of_mem _ hu) v (List.mem_cons_of_mem _ hv)
    have e : (∃ y ∈ l, C x y) ↔ ∃ y ∈ l, C' x y := ⟨fun ⟨y, h1, h2⟩ => ⟨y, h1, (h x (by simp) y (List.mem_cons_of_mem _ h1)).1 h2⟩, fun ⟨y, h1, h2⟩ => ⟨y, h1, (h x (by simp) y (List.mem_cons_of_mem _ h1)).2 h2⟩⟩
    simp only [cc, ih, e]
theorem Joins.same {α : Type} {C C' : α → α → Prop} {a b : α} (hC : Eqv C) (h : Joins C C' a b) (hab : C a b) (x y : α) : C' x y ↔ C x y := by
  rw [h.iff]
  constructor
  · rintro (h1 | ⟨h1, h2⟩ | ⟨h1, h2⟩)
    · exact h1
    · exact hC.trans h1 (hC.trans hab h2)
    · exact hC.trans h1 (hC.trans (hC.symm hab) h2)
  · exact .inl
theorem cc_join {α : Type} {C C' : α → α → Prop} {a b : α} (hC : Eqv C) (h : Joins C C' a b) (hab : ¬ C a b) : ∀ l : List α, cc C l = cc C' l + sg ((∃ y ∈ l, C a y) ∧ ∃ y ∈ l, C b y)
  | [] => by
    rw [sg_neg (fun h => by obtain ⟨⟨y, h, _⟩, _⟩ := h; cases h)]; rfl
  | x :: l => by
    have ih := cc_join hC h hab l
    have eA : (∃ y ∈ x :: l, C a y) ↔ C a x ∨ ∃ y ∈ l, C a y := by simp
    have eB : (∃ y ∈ x :: l, C b y) ↔ C b x ∨ ∃ y ∈ l, C b y := by simp
    have e' : (∃ y ∈ l, C' x y) ↔ (∃ y ∈ l, C x y) ∨ (C x a ∧ ∃ y ∈ l, C b y) ∨ (C x b ∧ ∃ y ∈ l, C a y) := by
      simp only [h.iff]
      constructor
      · rintro ⟨y, h1, h2 | ⟨h2, h3⟩ | ⟨h2, h3⟩⟩
        · exact .inl ⟨y, h1, h2⟩
        · exact .inr (.inl ⟨h2, y, h1, h3⟩)
        · exact .inr (.inr ⟨h2, y, h1, h3⟩)
      · rintro (⟨y, h1, h2⟩ | ⟨h2, y, h1, h3⟩ | ⟨h2, y, h1, h3⟩)
        · exact ⟨y, h1, .inl h2⟩
        · exact ⟨y, h1, .inr (.inl ⟨h2, h3⟩)⟩
        · exact ⟨y, h1, .inr (.inr ⟨h2, h3⟩)⟩
    simp only [cc, ih, eA, eB, e']
    by_cases ha : C x a
    · have hb : ¬ C x b := fun hb => hab (hC.trans (hC.symm ha) hb)
      have eX : (∃ y ∈ l, C x y) ↔ ∃ y ∈ l, C a y := ⟨fun ⟨y, h1, h2⟩ => ⟨y, h1, hC.trans (hC.symm ha) h2⟩, fun ⟨y, h1, h2⟩ => ⟨y, h1, hC.trans ha h2⟩⟩
      have ha' := hC.symm ha
      have hb' : ¬ C b x := fun h' => hb (hC.symm h')
      rw [eX]
      by_cases hA : ∃ y ∈ l, C a y <;> by_cases hB : ∃ y ∈ l, C b y <;> simp only [ha, hb, ha', hb', hA, hB, true_or, or_true, true_and, and_true, false_and, and_false, or_false, false_or, not_true, not_false_iff, sg_pos, sg_neg] <;> omega
    · by_cases hb : C x b
      · have eX : (∃ y ∈ l, C x y) ↔ ∃ y ∈ l, C b y := ⟨fun ⟨y, h1, h2⟩ => ⟨y, h1, hC.trans (hC.symm hb) h2⟩, fun ⟨y, h1, h2⟩ => ⟨y, h1, hC.trans hb h2⟩⟩
        have hb' := hC.symm hb
        have ha' : ¬ C a x := fun h' => ha (hC.symm h')
        rw [eX]
        by_cases hA : ∃ y ∈ l, C a y <;> by_cases hB : ∃ y ∈ l, C b y <;> simp only [ha, hb, ha', hb', hA, hB, true_or, or_true, true_and, and_true, false_and, and_false, or_false, false_or, not_true, not_false_iff, sg_pos, sg_neg] <;> omega
      · have ha' : ¬ C a x := fun h' => ha (hC.symm h')
        have hb' : ¬ C b x := fun h' => hb (hC.symm h')
        simp only [ha, hb, ha', hb', false_and, false_or, or_false]
        omega
/-- all classes are met, and nothing joined: as many classes as elements -/
theorem cc_discrete {α : Type} {C : α → α → Prop} : ∀ (l : List α), l.Nodup → (∀ x ∈ l, ∀ y ∈ l, C x y → x = y) → cc C l = l.length
  | [], _, _ => rfl
  | x :: l, hn, h => by
    rw [List.nodup_cons] at hn
    have ih := cc_discrete l hn.2 fun u hu v hv => h u (List.mem_cons_of_mem _ hu) v (List.mem_cons_of_mem _ hv)
    have : ¬ ∃ y ∈ l, C x y := fun ⟨y, h1, h2⟩ => hn.1 (by rw [h x (by simp) y (List.mem_cons_of_mem _ h1) h2]; exact h1)
    simp only [cc, ih, sg_pos this, List.length_cons]
/-! ### joined dies -/
theorem jn_trans {g : List Lk} {a b c : Die} (h : Jn g a b) (k : Jn g b c) : Jn g a c := by
  obtain ⟨n, h⟩ := jn_iff.1 h
  obtain ⟨m, k⟩ := jn_iff.1 k
  exact jn_iff.2 ⟨n + m, h.app k⟩
theorem jn_eqv (g : List Lk) : Eqv (Jn g) where
  rfl := fun x => by show (dst g x x).isSome = true; rw [dst_self]; rfl
  symm := fun {x y} h => by show (dst g y x).isSome = true; rw [dst_symm]; exact h
  trans := fun h k => jn_trans h k
theorem jn_lk {g : List Lk} {x : Lk} (h : x ∈ g) : Jn g x.o x.r := jn_iff.2 ⟨1, .cons .nil ⟨x, h, across_iff.2 (.inl ⟨rfl, rfl⟩)⟩⟩
theorem jn_mono {g h : List Lk} (hs : ∀ l ∈ g, l ∈ h) {x y : Die} (hj : Jn g x y) : Jn h x y := by
  obtain ⟨n, hw⟩ := jn_iff.1 hj
  refine jn_iff.2 ⟨n, ?_⟩
  clear hj
  induction hw with
  | nil => exact .nil
  | cons _ e ih =>
    obtain ⟨l, hl, e⟩ := e
    exact .cons ih ⟨l, hs l hl, e⟩
theorem jn_nil {x y : Die} (h : Jn [] x y) : x = y := by
  obtain ⟨n, h⟩ := jn_iff.1 h
  cases h with
  | nil => rfl
  | cons _ e => obtain ⟨l, hl, _⟩ := e; cases hl
theorem jn_add {g h : List Lk} {k : Lk} (hs : ∀ l, l ∈ h ↔ l ∈ g ∨ l = k) : Joins (Jn g) (Jn h) k.o k.r := by
  have eq := jn_eqv g
  have eq' := jn_eqv h
  refine ⟨fun x y => ⟨fun hj => ?_, ?_⟩⟩
  · obtain ⟨n, hw⟩ := jn_iff.1 hj
    clear hj
    induction hw with
    | nil => exact .inl (eq.rfl _)
    | @cons n u v _ e ih =>
      obtain ⟨l, hl, e⟩ := e
      rcases (hs l).1 hl with hl | rfl
      · have huv : Jn g u v := jn_iff.2 ⟨1, .cons .nil ⟨l, hl, e⟩⟩
        rcases ih with h1 | ⟨h1, h2⟩ | ⟨h1, h2⟩
        · exact .inl (eq.trans h1 huv)
        · exact .inr (.inl ⟨h1, eq.trans h2 huv⟩)
        · exact .inr (.inr ⟨h1, eq.trans h2 huv⟩)
      · rcases across_iff.1 e with ⟨rfl, rfl⟩ | ⟨rfl, rfl⟩
        · rcases ih with h1 | ⟨h1, h2⟩ | ⟨h1, h2⟩
          · exact .inr (.inl ⟨h1, eq.rfl _⟩)
          · exact .inr (.inl ⟨h1, eq.rfl _⟩)
          · exact .inl h1
        · rcases ih with h1 | ⟨h1, h2⟩ | ⟨h1, h2⟩
          · exact .inr (.inr ⟨h1, eq.rfl _⟩)
          · exact .inl h1
          · exact .inr (.inr ⟨h1, eq.rfl _⟩)
  · have hm : ∀ l ∈ g, l ∈ h := fun l hl => (hs l).2 (.inl hl)
    have hk := jn_lk ((hs k).2 (.inr rfl))
    rintro (h1 | ⟨h1, h2⟩ | ⟨h1, h2⟩)
    · exact jn_mono hm h1
    · exact eq'.trans (jn_mono hm h1) (eq'.trans hk (jn_mono hm h2))
    · exact eq'.trans (jn_mono hm h1) (eq'.trans (eq'.symm hk) (jn_mono hm h2))
theorem cc_perm {α : Type} {C : α → α → Prop} (hC : Eqv C) {l m : List α} (h : l.Perm m) : cc C l = cc C m := by
  induction h with
  | nil => rfl
  | @cons x l m hp ih =>
    have e : (∃ y ∈ l, C x y) ↔ ∃ y ∈ m, C x y := by
      constructor
      · rintro ⟨y, h1, h2⟩; exact ⟨y, hp.mem_iff.1 h1, h2⟩
      · rintro ⟨y, h1, h2⟩; exact ⟨y, hp.mem_iff.2 h1, h2⟩
    simp only [cc, ih, e]
  | @swap x y l =>
    have e1 : (∃ z ∈ y :: l, C x z) ↔ C x y ∨ ∃ z ∈ l, C x z := by simp
    have e2 : (∃ z ∈ x :: l, C y z) ↔ C y x ∨ ∃ z ∈ l, C y z := by simp
    simp only [cc, e1, e2]
    by_cases h : C x y
    · have h' := hC.symm h
      have eX : (∃ z ∈ l, C x z) ↔ ∃ z ∈ l, C y z := ⟨fun ⟨z, h1, h2⟩ => ⟨z, h1, hC.trans h' h2⟩, fun ⟨z, h1, h2⟩ => ⟨z, h1, hC.trans h h2⟩⟩
      simp only [h, h', true_or, eX]
    · have h' : ¬ C y x := fun h' => h (hC.symm h')
      simp only [h, h', false_or]
      omega
  | trans _ _ ih1 ih2 => rw [ih1, ih2]
/-! ### the names of net.parts -/
def usedL (ls : List Lk) (use : Nat → Bool) (k : Nat) : List Lk := ((List.range k).filter use).map (nth ls)
theorem usedL_succ (ls : List Lk) (use : Nat → Bool) (k : Nat) : usedL ls use (k + 1) = usedL ls use k ++ if use k then [nth ls k] else [] := by
  unfold usedL
  rw [List.range_succ, List.filter_append, List.map_append]
  congr 1
  simp only [List.filter_cons, List.filter_nil]
  split <;> rfl
theorem usedL_mem {ls : List Lk} {use : Nat → Bool} {k : Nat} {x : Lk} : x ∈ usedL ls use k ↔ ∃ i, i < k ∧ use i = true ∧ nth ls i = x := by
  unfold usedL
  simp only [List.mem_map, List.mem_filter, List.mem_range, and_assoc]
theorem jn_set {g h : List Lk} (hs : ∀ x, x ∈ g ↔ x ∈ h) (x y : Die) : Jn g x y ↔ Jn h x y := ⟨fun h1 => jn_mono (fun l hl => (hs l).1 hl) h1, fun h1 => jn_mono (fun l hl => (hs l).2 hl) h1⟩
theorem reS_nth (A B : Nat) (nm : List Nat) (i : Nat) (h : i < nm.length) : nth (reS A B nm) i = if nth nm i = B then A else nth nm i := by
  unfold reS; rw [nth_eq _ i (by simpa using h), nth_eq nm i h]; simp
theorem pt_inv {l : List Die} {ls : List Lk} (use : Nat → Bool) (hn : l.Nodup) (hen : Ends l ls) : ∀ k, k ≤ ls.length →
    (∀ x ∈ l, ∀ y ∈ l, nth (ptS (esD l ls) use l.length k).nm (plN l x) = nth (ptS (esD l ls) use l.length k).nm (plN l y) ↔ Jn (usedL ls use k) x y) ∧ (ptS (esD l ls) use l.length k).c = cc (Jn (usedL ls use k)) l
  | 0, _ => by
    have h0 : ∀ x y, Jn (usedL ls use 0) x y ↔ x = y := fun x y => ⟨fun h => jn_nil h, fun h => h ▸ jn_refl _ _⟩
    refine ⟨fun x hx y hy => ?_, ?_⟩
    · simp only [ptS]
      have hr : ∀ i, i < l.length → nth (List.range l.length) i = i := fun i hi => by rw [nth_eq _ i (by simpa using hi)]; simp
      rw [hr _ (plN_mem hx).1, hr _ (plN_mem hy).1, plc_ne hx hy, h0]
    · simp only [ptS]
      rw [cc_discrete l hn fun x _ y _ h => (h0 x y).1 h]
  | k + 1, hk => by
    obtain ⟨i1, i2⟩ := pt_inv use hn hen k (by omega)
    obtain ⟨pl, _, _⟩ := ptS_len (esD l ls) use l.length k
    have hm := hen _ (nth_mem'' ls k (by omega))
    have heq := jn_eqv (usedL ls use k)
    have hor := i1 _ hm.1 _ hm.2
    simp only [ptS, ptK]
    rw [esD_nth _ _ _ (by omega)]
    simp only []
    generalize ptS (esD l ls) use l.length k = s at *
    rw [usedL_succ]
    cases hu : use k with
    | false =>
      rw [if_pos (.inr rfl), if_neg (by simp), List.append_nil]
      exact ⟨i1, i2⟩
    | true =>
      rw [if_pos rfl]
      have hj : Joins (Jn (usedL ls use k)) (Jn (usedL ls use k ++ [nth ls k])) (nth ls k).o (nth ls k).r := jn_add fun x => by simp
      by_cases hAB : nth s.nm (plN l (nth ls k).o) = nth s.nm (plN l (nth ls k).r)
      · rw [if_pos (.inl hAB)]
        have hs := hj.same heq (hor.1 hAB)
        exact ⟨fun x hx y hy => (i1 x hx y hy).trans (hs x y).symm, i2.trans (by rw [cc_congr l fun x _ y _ => (hs x y).symm])⟩
      · rw [if_neg (by rintro (h | h); exact hAB h; cases h)]
        have hno : ¬ Jn (usedL ls use k) (nth ls k).o (nth ls k).r := fun h => hAB (hor.2 h)
        refine ⟨fun x hx y hy => ?_, ?_⟩
        · simp only []
          rw [reS_nth _ _ _ _ (by rw [pl]; exact (plN_mem hx).1), reS_nth _ _ _ _ (by rw [pl]; exact (plN_mem hy).1), hj.iff, ← i1 x hx y hy, ← i1 x hx _ hm.1, ← i1 x hx _ hm.2, ← i1 _ hm.2 y hy, ← i1 _ hm.1 y hy]
          generalize nth s.nm (plN l x) = nx
          generalize nth s.nm (plN l y) = ny
          generalize nth s.nm (plN l (nth ls k).o) = A at *
          generalize nth s.nm (plN l (nth ls k).r) = B at *
          split <;> split <;> omega
        · simp only []
          have := cc_join heq hj hno l
          rw [sg_pos ⟨⟨_, hm.1, heq.rfl _⟩, _, hm.2, heq.rfl _⟩] at this
          omega
/-- the count of net.parts -/
theorem pt_count {g : Gr} (hv : validG g = true) (use : Nat → Bool) : (ptS (esG g) use (nG g) (esG g).length).c = cc (Jn (usedL g.links use g.links.length)) (diesG g) := by
  have := (pt_inv use (dies_nodup hv) (valid_ends hv) g.links.length (Nat.le_refl _)).2
  rw [dies_len] at this
  rw [esG_len, esG_eq hv]; exact this
theorem pt_name {g : Gr} (hv : validG g = true) (use : Nat → Bool) {x y : Die} (hx : x ∈ diesG g) (hy : y ∈ diesG g) : nth (ptS (esG g) use (nG g) (esG g).length).nm (plN (diesG g) x) = nth (ptS (esG g) use (nG g) (esG g).length).nm (plN (diesG g) y) ↔ Jn (usedL g.links use g.links.length) x y := by
  have := (pt_inv use (dies_nodup hv) (valid_ends hv) g.links.length (Nat.le_refl _)).1 x hx y hy
  rw [dies_len] at this
  rw [esG_len, esG_eq hv]; exact this
theorem used_all (ls : List Lk) (x y : Die) : Jn (usedL ls (fun _ => true) ls.length) x y ↔ Jn ls x y := jn_set (fun l => by
  rw [usedL_mem]
  exact ⟨fun ⟨i, h1, _, h2⟩ => h2 ▸ nth_mem'' ls i h1, fun h => by obtain ⟨i, h1, h2⟩ := mem_nth h; exact ⟨i, h1, rfl, h2⟩⟩) x y
theorem notIn_mem {out : List Int} {ls : List Lk} {x : Lk} : x ∈ notIn out ls ↔ x ∈ ls ∧ x.id ∉ out := by unfold notIn; rw [List.mem_filter, decide_eq_true_eq]
theorem used_out {ls : List Lk} {use : Nat → Bool} {out : List Int} (h : ∀ i, i < ls.length → (use i = true ↔ (nth ls i).id ∉ out)) (x y : Die) : Jn (usedL ls use ls.length) x y ↔ Jn (notIn out ls) x y := jn_set (fun l => by
  rw [usedL_mem, notIn_mem]
  constructor
  · rintro ⟨i, h1, h2, rfl⟩
    exact ⟨nth_mem'' ls i h1, (h i h1).1 h2⟩
  · rintro ⟨h1, h2⟩
    obtain ⟨i, h3, rfl⟩ := mem_nth h1
    exact ⟨i, h3, (h i h3).2 h2, rfl⟩) x y
theorem used_one {g : Gr} (hv : validG g = true) {k : Nat} (hk : k < g.links.length) (x y : Die) : Jn (usedL g.links (fun i => decide (i ≠ k)) g.links.length) x y ↔ Jn (notIn [(nth g.links k).id] g.links) x y := used_out (fun i hi => by
  simp only [decide_eq_true_eq, List.mem_singleton]
  exact ⟨fun h e => h (id_inj (valid_ids hv) hi hk e), fun h e => h (by rw [e])⟩) x y
end Go.Proofs.Ytgldpbghbkoolaa

