/-
  Lemmas for the proof: no statement of its own.
-/
import Derived.Test.YtgldpbghbkoolaaPlainB
import Derived.Test.YtgldpbghbkoolaaWalkC
set_option linter.unusedVariables false
set_option linter.unusedSimpArgs false
-- P p_15.txt
open Go Go.AL Go.RowKit
namespace Go.Proofs.Ytgldpbghbkoolaa
set_option maxRecDepth 20000
/-! ### a search for a further way in a net, and the flow -/
abbrev Es := List (Nat × Nat)
structure Sr where
  (fr : List Int) (q : List Nat)
deriving Inhabited
def hop (fl : List Int) (cur k x y : Nat) (sg : Int) (s : Sr) : Sr := if x = cur ∧ nth fl k ≠ sg ∧ y ∉ s.q then ⟨s.fr.set y k, s.q ++ [y]⟩ else s
def hopK (es : Es) (fl : List Int) (gone : List Bool) (cur : Nat) (s : Sr) (k : Nat) : Sr :=
  if nth gone k = true then s else hop fl cur k (nth es k).2 (nth es k).1 (-1) (hop fl cur k (nth es k).1 (nth es k).2 1 s)
def rnd (es : Es) (fl : List Int) (gone : List Bool) (cur : Nat) (s : Sr) : Nat → Sr
  | 0 => s
  | k + 1 => hopK es fl gone cur (rnd es fl gone cur s k) k
def srS (es : Es) (fl : List Int) (gone : List Bool) (n a : Nat) : Nat → Sr
  | 0 => ⟨List.replicate n (-1), [a]⟩
  | h + 1 => if h < (srS es fl gone n a h).q.length then rnd es fl gone (nth (srS es fl gone n a h).q h) (srS es fl gone n a h) es.length else srS es fl gone n a h
/-- what the list and the links of a search say -/
structure SInv (es : Es) (fl : List Int) (gone : List Bool) (n a : Nat) (s : Sr) : Prop where
  len : s.fr.length = n
  nd : s.q.Nodup
  lt : ∀ v ∈ s.q, v < n
  un : ∀ v, v < n → v ∉ s.q → nth s.fr v = -1
  fst : 0 < s.q.length ∧ nth s.q 0 = a
  par : ∀ i, 0 < i → i < s.q.length → ∃ j k, j < i ∧ k < es.length ∧ nth gone k = false ∧ nth s.fr (nth s.q i) = (k : Nat) ∧ ((nth es k = (nth s.q j, nth s.q i) ∧ nth fl k ≠ 1) ∨ (nth es k = (nth s.q i, nth s.q j) ∧ nth fl k ≠ -1))
structure Sr.ext (s s' : Sr) : Prop where
  q : ∃ z, s'.q = s.q ++ z
  fr : ∀ v ∈ s.q, nth s'.fr v = nth s.fr v
theorem Sr.ext_refl (s : Sr) : s.ext s := ⟨⟨[], by simp⟩, fun _ _ => rfl⟩
theorem Sr.ext.ext_trans {a b c : Sr} (h : a.ext b) (k : b.ext c) : a.ext c := by
  obtain ⟨⟨z, hz⟩, h2⟩ := h
  obtain ⟨⟨z', hz'⟩, k2⟩ := k
  exact ⟨⟨z ++ z', by rw [hz', hz, List.append_assoc]⟩, fun v hv => (k2 v (by rw [hz]; exact List.mem_append_left _ hv)).trans (h2 v hv)⟩
theorem nth_app_l {α : Type} [Inhabited α] (l z : List α) (i : Nat) (h : i < l.length) : nth (l ++ z) i = nth l i := by
  rw [nth_eq _ i (by simp; omega), nth_eq l i h, List.getElem_append_left h]
theorem nth_setN {α : Type} [Inhabited α] (l : List α) (i j : Nat) (x : α) (h : i < l.length) : nth (l.set i x) j = if j = i then x else nth l j := by
  unfold nth
  simp only [List.getD, List.getElem?_set]
  by_cases e : j = i
  · subst e; rw [if_pos rfl, if_pos rfl, if_pos h]; rfl
  · rw [if_neg (fun h => e h.symm), if_neg e]
theorem Sr.ext.ext_nth {s s' : Sr} (h : s.ext s') {i : Nat} (hi : i < s.q.length) : nth s'.q i = nth s.q i ∧ i < s'.q.length := by
  obtain ⟨⟨z, hz⟩, _⟩ := h
  rw [hz]
  exact ⟨nth_app_l _ _ _ hi, by simp; omega⟩
theorem Sr.ext.ext_mem {s s' : Sr} (h : s.ext s') {v : Nat} (hv : v ∈ s.q) : v ∈ s'.q := by
  obtain ⟨⟨z, hz⟩, _⟩ := h
  rw [hz]; exact List.mem_append_left _ hv
theorem mem_nth {α : Type} [Inhabited α] {l : List α} {v : α} (h : v ∈ l) : ∃ i, i < l.length ∧ nth l i = v := by
  obtain ⟨i, hi, e⟩ := List.getElem_of_mem h
  exact ⟨i, hi, by rw [nth_eq l i hi]; exact e⟩
theorem nth_mem'' {α : Type} [Inhabited α] (l : List α) (i : Nat) (h : i < l.length) : nth l i ∈ l := by rw [nth_eq l i h]; exact List.getElem_mem h
theorem nth_inj {α : Type} [Inhabited α] {l : List α} (hn : l.Nodup) {i j : Nat} (hi : i < l.length) (hj : j < l.length) (h : nth l i = nth l j) : i = j := by
  rw [nth_eq l i hi, nth_eq l j hj] at h
  exact (List.getElem_inj hn).1 h
section
variable {es : Es} {fl : List Int} {gone : List Bool} {n a : Nat}
theorem SInv.hop {s : Sr} (hs : SInv es fl gone n a s) {h k x y : Nat} {sg : Int} (hh : h < s.q.length) (hk : k < es.length) (hg : nth gone k = false) (hy : y < n) (ho : (nth es k = (x, y) ∧ sg = 1) ∨ (nth es k = (y, x) ∧ sg = -1)) :
    SInv es fl gone n a (hop fl (nth s.q h) k x y sg s) ∧ s.ext (hop fl (nth s.q h) k x y sg s) ∧ (x = nth s.q h → nth fl k ≠ sg → y ∈ (hop fl (nth s.q h) k x y sg s).q) := by
  unfold Ytgldpbghbkoolaa.hop
  split
  · rename_i hc
    obtain ⟨h1, h2, h3⟩ := hc
    have hfr : ∀ v ∈ s.q, nth (s.fr.set y k) v = nth s.fr v := fun v hv => by
      rw [nth_setN _ _ _ _ (by rw [hs.len]; exact hy), if_neg (fun e => by rw [e] at hv; exact h3 hv)]
    refine ⟨⟨by simp [hs.len], ?_, fun v hv => ?_, fun v h1 h2 => ?_, ?_, fun i h0 hi => ?_⟩, ⟨⟨[y], rfl⟩, hfr⟩, fun _ _ => by simp⟩
    · rw [List.nodup_append]
      exact ⟨hs.nd, by simp, fun u hu v hv => by simp at hv; subst hv; exact fun e => h3 (e ▸ hu)⟩
    · rcases List.mem_append.1 hv with hv | hv
      · exact hs.lt v hv
      · simp at hv; omega
    · simp at h2
      rw [nth_setN _ _ _ _ (by rw [hs.len]; exact hy), if_neg h2.2]
      exact hs.un v h1 h2.1
    · refine ⟨by simp, ?_⟩
      rw [nth_app_l _ _ _ hs.fst.1]; exact hs.fst.2
    · simp at hi
      by_cases e : i = s.q.length
      · subst e
        have e1 : nth (s.q ++ [y]) s.q.length = y := by rw [nth_eq _ _ (by simp)]; simp
        refine ⟨h, k, hh, hk, hg, ?_, ?_⟩
        · rw [e1, nth_setN _ _ _ _ (by rw [hs.len]; exact hy), if_pos rfl]
        · rw [e1, nth_app_l _ _ _ hh]
          rcases ho with ⟨ho, rfl⟩ | ⟨ho, rfl⟩
          · exact .inl ⟨by rw [ho, h1], h2⟩
          · exact .inr ⟨by rw [ho, h1], h2⟩
      · have hi' : i < s.q.length := by omega
        obtain ⟨j, k', p1, p2, p3, p4, p5⟩ := hs.par i h0 hi'
        refine ⟨j, k', p1, p2, p3, ?_, ?_⟩
        · rw [nth_app_l _ _ _ hi', hfr _ (nth_mem'' _ _ hi')]; exact p4
        · rw [nth_app_l _ _ _ hi', nth_app_l _ _ _ (by omega)]; exact p5
  · rename_i hc
    refine ⟨hs, s.ext_refl, fun h1 h2 => ?_⟩
    by_cases hy : y ∈ s.q
    · exact hy
    · exact absurd ⟨h1, h2, hy⟩ hc
/-- the links at a vertex that can be used lead into the list -/
def Shut (es : Es) (fl : List Int) (gone : List Bool) (q : List Nat) (cur k : Nat) : Prop :=
  nth gone k = false → ((nth es k).1 = cur → nth fl k ≠ 1 → (nth es k).2 ∈ q) ∧ ((nth es k).2 = cur → nth fl k ≠ -1 → (nth es k).1 ∈ q)
theorem Shut.mono {q q' : List Nat} {cur k : Nat} (h : Shut es fl gone q cur k) (hq : ∀ v ∈ q, v ∈ q') : Shut es fl gone q' cur k :=
  fun hg => ⟨fun h1 h2 => hq _ ((h hg).1 h1 h2), fun h1 h2 => hq _ ((h hg).2 h1 h2)⟩
def EsLt (es : Es) (n : Nat) : Prop := ∀ k, k < es.length → (nth es k).1 < n ∧ (nth es k).2 < n
theorem SInv.hopK {s : Sr} (hs : SInv es fl gone n a s) (he : EsLt es n) {h k : Nat} (hh : h < s.q.length) (hk : k < es.length) :
    SInv es fl gone n a (hopK es fl gone (nth s.q h) s k) ∧ s.ext (hopK es fl gone (nth s.q h) s k) ∧ Shut es fl gone (hopK es fl gone (nth s.q h) s k).q (nth s.q h) k := by
  unfold Ytgldpbghbkoolaa.hopK
  cases hg : nth gone k with
  | true => simp only [if_true]; exact ⟨hs, s.ext_refl, fun h => by rw [hg] at h; cases h⟩
  | false =>
    rw [if_neg (by simp)]
    obtain ⟨a1, a2, a3⟩ := hs.hop (x := (nth es k).1) (y := (nth es k).2) (sg := 1) hh hk hg (he k hk).2 (.inl ⟨rfl, rfl⟩)
    have hn := a2.ext_nth hh
    obtain ⟨b1, b2, b3⟩ := a1.hop (x := (nth es k).2) (y := (nth es k).1) (sg := -1) hn.2 hk hg (he k hk).1 (.inr ⟨rfl, rfl⟩)
    rw [hn.1] at b1 b2 b3
    exact ⟨b1, a2.ext_trans b2, fun _ => ⟨fun h1 h2 => b2.ext_mem (a3 h1 h2), fun h1 h2 => b3 h1 h2⟩⟩
theorem SInv.rnd {s : Sr} (hs : SInv es fl gone n a s) (he : EsLt es n) {h : Nat} (hh : h < s.q.length) : ∀ k, k ≤ es.length →
    SInv es fl gone n a (rnd es fl gone (nth s.q h) s k) ∧ s.ext (rnd es fl gone (nth s.q h) s k) ∧ ∀ j, j < k → Shut es fl gone (rnd es fl gone (nth s.q h) s k).q (nth s.q h) j
  | 0, _ => ⟨hs, s.ext_refl, fun j hj => by omega⟩
  | k + 1, hk => by
    obtain ⟨a1, a2, a3⟩ := SInv.rnd hs he hh k (by omega)
    have hn := a2.ext_nth hh
    obtain ⟨b1, b2, b3⟩ := a1.hopK he hn.2 (by omega : k < es.length)
    rw [hn.1] at b1 b2 b3
    refine ⟨b1, a2.ext_trans b2, fun j hj => ?_⟩
    rcases Nat.lt_succ_iff_lt_or_eq.1 hj with hj | rfl
    · exact (a3 j hj).mono fun v hv => b2.ext_mem hv
    · exact b3
theorem SInv.start (ha : a < n) : SInv es fl gone n a ⟨List.replicate n (-1), [a]⟩ where
  len := by simp
  nd := by simp
  lt := fun v hv => by simp at hv; omega
  un := fun v hv _ => by rw [nth_eq _ v (by simpa using hv)]; simp
  fst := ⟨by simp, rfl⟩
  par := fun i h0 hi => by simp at hi; omega
theorem srS_inv (he : EsLt es n) (ha : a < n) : ∀ h, SInv es fl gone n a (srS es fl gone n a h) ∧ ∀ i, i < h → i < (srS es fl gone n a h).q.length → ∀ k, k < es.length → Shut es fl gone (srS es fl gone n a h).q (nth (srS es fl gone n a h).q i) k
  | 0 => ⟨SInv.start ha, fun i hi => by omega⟩
  | h + 1 => by
    obtain ⟨a1, a2⟩ := srS_inv he ha h
    simp only [srS]
    split
    · rename_i hh
      obtain ⟨b1, b2, b3⟩ := a1.rnd he hh es.length (Nat.le_refl _)
      refine ⟨b1, fun i hi hl k hk => ?_⟩
      rcases Nat.lt_succ_iff_lt_or_eq.1 hi with hi' | rfl
      · have hn := b2.ext_nth (by omega : i < (srS es fl gone n a h).q.length)
        rw [hn.1]
        exact (a2 i hi' (by omega) k hk).mono fun v hv => b2.ext_mem hv
      · have hn := b2.ext_nth hh
        rw [hn.1]
        exact b3 k hk
    · rename_i hh
      exact ⟨a1, fun i hi hl k hk => a2 i (by omega) hl k hk⟩
theorem srS_step (he : EsLt es n) (ha : a < n) (h : Nat) : (srS es fl gone n a h).ext (srS es fl gone n a (h + 1)) := by
  simp only [srS]
  split
  · rename_i hh
    exact ((srS_inv he ha h).1.rnd he hh es.length (Nat.le_refl _)).2.1
  · exact Sr.ext_refl _
theorem srS_ext (he : EsLt es n) (ha : a < n) {h : Nat} : ∀ {m}, h ≤ m → (srS es fl gone n a h).ext (srS es fl gone n a m)
  | 0, hm => by obtain rfl : h = 0 := by omega
                exact Sr.ext_refl _
  | m + 1, hm => by
    by_cases e : h = m + 1
    · subst e; exact Sr.ext_refl _
    · exact (srS_ext he ha (by omega : h ≤ m)).ext_trans (srS_step he ha m)
theorem srS_stop {h : Nat} (hh : (srS es fl gone n a h).q.length ≤ h) : ∀ m, h ≤ m → srS es fl gone n a m = srS es fl gone n a h
  | 0, hm => by obtain rfl : h = 0 := by omega
                rfl
  | m + 1, hm => by
    by_cases e : h = m + 1
    · subst e; rfl
    · have ih := srS_stop hh m (by omega)
      simp only [srS]
      rw [if_neg (by rw [ih]; omega), ih]
theorem SInv.le {s : Sr} (hs : SInv es fl gone n a s) : s.q.length ≤ n := by
  have := nodup_le (m := List.range n) hs.nd (fun x hx => List.mem_range.2 (hs.lt x hx))
  simpa using this
/-! ### back along the way -/
def bt (es : Es) (fr : List Int) (a : Nat) : Nat → Nat → List Int → List Int
  | 0, _, fl => fl
  | f + 1, v, fl => if v = a then fl else
      if (nth es (nth fr v).toNat).2 = v then bt es fr a f (nth es (nth fr v).toNat).1 (fl.set (nth fr v).toNat (nth fl (nth fr v).toNat + 1))
      else bt es fr a f (nth es (nth fr v).toNat).2 (fl.set (nth fr v).toNat (nth fl (nth fr v).toNat - 1))
/-- the flow with one more way, if there is one -/
def wid (es : Es) (n a b : Nat) (gone : List Bool) (fl : List Int) : Option (List Int) :=
  if b ∈ (srS es fl gone n a n).q then some (bt es (srS es fl gone n a n).fr a n b fl) else none
def sumI (f : Nat → Int) : Nat → Int
  | 0 => 0
  | k + 1 => sumI f k + f k
theorem sumI_congr {f g : Nat → Int} : ∀ m, (∀ k, k < m → f k = g k) → sumI f m = sumI g m
  | 0, _ => rfl
  | m + 1, h => by simp only [sumI]; rw [sumI_congr m (fun k hk => h k (by omega)), h m (by omega)]
theorem sumI_le {f g : Nat → Int} : ∀ m, (∀ k, k < m → f k ≤ g k) → sumI f m ≤ sumI g m
  | 0, _ => by simp [sumI]
  | m + 1, h => by have := sumI_le m (fun k hk => h k (by omega)); have := h m (by omega); simp only [sumI]; omega
theorem sumI_upd {f g : Nat → Int} {k : Nat} : ∀ m, k < m → (∀ j, j ≠ k → g j = f j) → sumI g m = sumI f m + (g k - f k)
  | 0, h, _ => by omega
  | m + 1, h, hg => by
    simp only [sumI]
    by_cases e : k = m
    · subst e
      rw [sumI_congr (f := g) (g := f) k fun j hj => hg j (by omega)]; omega
    · rw [sumI_upd m (by omega) hg, hg m (fun h => e h.symm)]; omega
def ib (b : Bool) : Int := if b then 1 else 0
/-- what flows out of a set -/
def outS (es : Es) (fl : List Int) (T : Nat → Bool) : Int := sumI (fun k => nth fl k * (ib (T (nth es k).1) - ib (T (nth es k).2))) es.length
/-- how many links lead out of a set -/
def cutN (es : Es) (gone : List Bool) (T : Nat → Bool) : Int := sumI (fun k => if nth gone k = false ∧ T (nth es k).1 ≠ T (nth es k).2 then 1 else 0) es.length
theorem outS_set {k : Nat} (hk : k < es.length) (hl : fl.length = es.length) (d : Int) (T : Nat → Bool) : outS es (fl.set k (nth fl k + d)) T = outS es fl T + d * (ib (T (nth es k).1) - ib (T (nth es k).2)) := by
  unfold outS
  rw [sumI_upd (f := fun k => nth fl k * (ib (T (nth es k).1) - ib (T (nth es k).2))) (k := k) es.length hk fun j hj => by
    rw [nth_setN _ _ _ _ (by omega), if_neg hj]]
  rw [nth_setN _ _ _ _ (by omega), if_pos rfl, Int.add_mul]; omega
structure BtI (es : Es) (gone : List Bool) (b : Nat) (fl0 : List Int) (s : Sr) (i : Nat) (fl : List Int) : Prop where
  lt : i < s.q.length
  len : fl.length = es.length
  bnd : ∀ k, -1 ≤ nth fl k ∧ nth fl k ≤ 1
  gon : ∀ k, k < es.length → nth gone k = true → nth fl k = 0
  old : ∀ j, 0 < j → j ≤ i → nth fl (nth s.fr (nth s.q j)).toNat = nth fl0 (nth s.fr (nth s.q j)).toNat
  out : ∀ T, outS es fl T = outS es fl0 T + ib (T (nth s.q i)) - ib (T b)
theorem BtI.step {b : Nat} {fl0 : List Int} {s : Sr} {i : Nat} {fl : List Int} (hs : SInv es fl0 gone n a s) (h : BtI es gone b fl0 s i fl) (h0 : 0 < i) :
    nth s.q i ≠ a ∧ (nth s.fr (nth s.q i)).toNat < es.length ∧ 0 ≤ nth s.fr (nth s.q i) ∧ ∃ j, j < i ∧
    (((nth es (nth s.fr (nth s.q i)).toNat).2 = nth s.q i ∧ (nth es (nth s.fr (nth s.q i)).toNat).1 = nth s.q j ∧ BtI es gone b fl0 s j (fl.set (nth s.fr (nth s.q i)).toNat (nth fl (nth s.fr (nth s.q i)).toNat + 1))) ∨
     ((nth es (nth s.fr (nth s.q i)).toNat).2 ≠ nth s.q i ∧ (nth es (nth s.fr (nth s.q i)).toNat).2 = nth s.q j ∧ BtI es gone b fl0 s j (fl.set (nth s.fr (nth s.q i)).toNat (nth fl (nth s.fr (nth s.q i)).toNat - 1)))) := by
  obtain ⟨j, k, p1, p2, p3, p4, p5⟩ := hs.par i h0 h.lt
  have ek : (nth s.fr (nth s.q i)).toNat = k := by rw [p4]; simp
  have hja : nth s.q i ≠ a := fun e => by
    have := nth_inj hs.nd h.lt hs.fst.1 (e.trans hs.fst.2.symm); omega
  have hji : nth s.q j ≠ nth s.q i := fun e => by
    have := nth_inj hs.nd (by have := h.lt; omega) h.lt e; omega
  have hold := h.old i h0 (Nat.le_refl _)
  rw [ek] at hold ⊢
  have hother : ∀ j', 0 < j' → j' ≤ j → (nth s.fr (nth s.q j')).toNat ≠ k := fun j' h1 h2 e => by
    obtain ⟨u, k', r1, r2, r3, r4, r5⟩ := hs.par j' h1 (by have := h.lt; omega)
    have : k' = k := by rw [r4] at e; simpa using e
    subst this
    have l1 : j' < s.q.length := by have := h.lt; omega
    have l2 : j < s.q.length := by have := h.lt; omega
    have l3 : u < s.q.length := by omega
    have hcase : (nth s.q j' = nth s.q i) ∨ (nth s.q u = nth s.q i) := by
      rcases p5 with ⟨p5, _⟩ | ⟨p5, _⟩ <;> rcases r5 with ⟨r5, _⟩ | ⟨r5, _⟩ <;> rw [p5] at r5 <;> simp only [Prod.mk.injEq] at r5
      · exact .inl r5.2.symm
      · exact .inr r5.2.symm
      · exact .inr r5.1.symm
      · exact .inl r5.1.symm
    rcases hcase with e1 | e1
    · have := nth_inj hs.nd l1 h.lt e1; omega
    · have := nth_inj hs.nd l3 h.lt e1; omega
  have hset : ∀ d : Int, -1 ≤ nth fl k + d → nth fl k + d ≤ 1 → (∀ T : Nat → Bool, ib (T (nth s.q i)) + d * (ib (T (nth es k).1) - ib (T (nth es k).2)) = ib (T (nth s.q j))) → BtI es gone b fl0 s j (fl.set k (nth fl k + d)) := fun d d1 d2 hT => by
    refine ⟨by have := h.lt; omega, by simp [h.len], fun k' => ?_, fun k' hk' hg => ?_, fun j' h1 h2 => ?_, fun T => ?_⟩
    · by_cases e : k' = k
      · rw [nth_setN _ _ _ _ (by rw [h.len]; exact p2), if_pos e]; exact ⟨d1, d2⟩
      · rw [nth_setN _ _ _ _ (by rw [h.len]; exact p2), if_neg e]; exact h.bnd k'
    · rw [nth_setN _ _ _ _ (by rw [h.len]; exact p2), if_neg (fun e => by rw [e, p3] at hg; cases hg)]
      exact h.gon k' hk' hg
    · rw [nth_setN _ _ _ _ (by rw [h.len]; exact p2), if_neg (hother j' h1 h2)]
      exact h.old j' h1 (by omega)
    · rw [outS_set p2 h.len, h.out T, ← hT T]; omega
  have hb := h.bnd k
  refine ⟨hja, p2, by omega, j, p1, ?_⟩
  rcases p5 with ⟨p5, p6⟩ | ⟨p5, p6⟩
  · left
    refine ⟨by rw [p5], by rw [p5], ?_⟩
    rw [← hold] at p6
    exact hset 1 (by omega) (by omega) fun T => by rw [p5]; simp only []; omega
  · right
    refine ⟨by rw [p5]; exact hji, by rw [p5], ?_⟩
    rw [← hold] at p6
    have := hset (-1) (by omega) (by omega) fun T => by rw [p5]; simp only []; omega
    exact this
theorem bt_end {b : Nat} {fl0 : List Int} {s : Sr} (hs : SInv es fl0 gone n a s) : ∀ f i fl, i < f → BtI es gone b fl0 s i fl → BtI es gone b fl0 s 0 (bt es s.fr a f (nth s.q i) fl)
  | 0, i, fl, hf, _ => by omega
  | f + 1, i, fl, hf, h => by
    simp only [bt]
    rcases Nat.eq_zero_or_pos i with rfl | h0
    · rw [if_pos hs.fst.2]; exact h
    · obtain ⟨h1, _, _, j, hj, h2 | h2⟩ := h.step hs h0
      · obtain ⟨e1, e2, e3⟩ := h2
        rw [if_neg h1, if_pos e1, e2]
        exact bt_end hs f j _ (by omega) e3
      · obtain ⟨e1, e2, e3⟩ := h2
        rw [if_neg h1, if_neg e1, e2]
        exact bt_end hs f j _ (by omega) e3
theorem bt_ext {s s' : Sr} (hx : s.ext s') (hs : SInv es fl gone n a s) : ∀ f i (fl' : List Int), i < s.q.length → bt es s'.fr a f (nth s.q i) fl' = bt es s.fr a f (nth s.q i) fl'
  | 0, _, _, _ => rfl
  | f + 1, i, fl', hi => by
    have e := hx.fr _ (nth_mem'' s.q i hi)
    simp only [bt, e]
    rcases Nat.eq_zero_or_pos i with rfl | h0
    · rw [if_pos hs.fst.2, if_pos hs.fst.2]
    · have hne : nth s.q i ≠ a := fun e => by
        have := nth_inj hs.nd hi hs.fst.1 (e.trans hs.fst.2.symm); omega
      obtain ⟨j, k, p1, p2, p3, p4, p5⟩ := hs.par i h0 hi
      have hji : nth s.q j ≠ nth s.q i := fun e => by
        have := nth_inj hs.nd (by omega) hi e; omega
      rw [if_neg hne, if_neg hne, p4, Int.toNat_natCast]
      rcases p5 with ⟨p5, _⟩ | ⟨p5, _⟩
      · rw [p5, if_pos rfl, if_pos rfl]
        exact bt_ext hx hs f j _ (by omega)
      · rw [p5]
        simp only []
        rw [if_neg hji, if_neg hji]
        exact bt_ext hx hs f j _ (by omega)
/-! ### flows -/
structure IsFl (es : Es) (gone : List Bool) (a b : Nat) (fl : List Int) (v : Int) : Prop where
  len : fl.length = es.length
  bnd : ∀ k, -1 ≤ nth fl k ∧ nth fl k ≤ 1
  gon : ∀ k, k < es.length → nth gone k = true → nth fl k = 0
  out : ∀ T : Nat → Bool, T a = true → T b = false → outS es fl T = v
theorem wid_some {b : Nat} {v : Int} {fl' : List Int} (he : EsLt es n) (ha : a < n) (hf : IsFl es gone a b fl v) (h : wid es n a b gone fl = some fl') : IsFl es gone a b fl' (v + 1) := by
  unfold wid at h
  split at h
  · rename_i hb
    cases h
    obtain ⟨hs, _⟩ := srS_inv (fl := fl) (gone := gone) he ha n
    generalize srS es fl gone n a n = s at *
    obtain ⟨i, hi, rfl⟩ := mem_nth hb
    have h0 : BtI es gone (nth s.q i) fl s i fl := ⟨hi, hf.len, hf.bnd, hf.gon, fun _ _ _ => rfl, fun T => by omega⟩
    have := bt_end hs n i fl (by have := hs.le; omega) h0
    refine ⟨this.len, this.bnd, this.gon, fun T h1 h2 => ?_⟩
    rw [this.out T, hf.out T h1 h2, hs.fst.2, h1, h2]; simp [ib]
  · cases h
theorem out_le_cut {b : Nat} {v : Int} (hf : IsFl es gone a b fl v) (T : Nat → Bool) : outS es fl T ≤ cutN es gone T := by
  unfold outS cutN
  refine sumI_le _ fun k hk => ?_
  have hb := hf.bnd k
  have hg := hf.gon k hk
  cases h1 : T (nth es k).1 <;> cases h2 : T (nth es k).2 <;> cases h3 : nth gone k <;> simp [ib] <;> first | omega | (rw [hg h3]; omega) | skip
  all_goals (have := hg h3; omega)
theorem wid_none {b : Nat} {v : Int} (he : EsLt es n) (ha : a < n) (hf : IsFl es gone a b fl v) (h : wid es n a b gone fl = none) : ∃ T : Nat → Bool, T a = true ∧ T b = false ∧ cutN es gone T = v := by
  unfold wid at h
  split at h
  · cases h
  · rename_i hb
    obtain ⟨hs, hsh⟩ := srS_inv (fl := fl) (gone := gone) he ha n
    generalize srS es fl gone n a n = s at *
    have ha' : a ∈ s.q := by rw [← hs.fst.2]; exact nth_mem'' _ _ hs.fst.1
    refine ⟨fun v => decide (v ∈ s.q), by simp [ha'], by simp [hb], ?_⟩
    rw [← hf.out (fun v => decide (v ∈ s.q)) (by simp [ha']) (by simp [hb])]
    unfold cutN outS
    refine sumI_congr _ fun k hk => ?_
    have hbd := hf.bnd k
    have hg := hf.gon k hk
    have key : ∀ v ∈ s.q, Shut es fl gone s.q v k := fun v hv => by
      obtain ⟨i, hi, rfl⟩ := mem_nth hv
      exact hsh i (by have := hs.le; omega) hi k hk
    cases h3 : nth gone k with
    | true => rw [hg h3]; simp
    | false =>
      by_cases h1 : (nth es k).1 ∈ s.q <;> by_cases h2 : (nth es k).2 ∈ s.q
      · simp [h1, h2, ib]
      · have := ((key _ h1) h3).1 rfl
        have : nth fl k = 1 := by
          by_cases e : nth fl k = 1
          · exact e
          · exact absurd (this e) h2
        rw [this]; simp [h1, h2, ib]
      · have := ((key _ h2) h3).2 rfl
        have : nth fl k = -1 := by
          by_cases e : nth fl k = -1
          · exact e
          · exact absurd (this e) h1
        rw [this]; simp [h1, h2, ib]
      · simp [h1, h2, ib]
end
/-- the least number of links that separate -/
def IsMC (es : Es) (gone : List Bool) (a b : Nat) (v : Int) : Prop := (∃ T : Nat → Bool, T a = true ∧ T b = false ∧ cutN es gone T = v) ∧ ∀ T : Nat → Bool, T a = true → T b = false → v ≤ cutN es gone T
theorem IsMC.uniq {es : Es} {gone : List Bool} {a b : Nat} {v w : Int} (h : IsMC es gone a b v) (k : IsMC es gone a b w) : v = w := by
  obtain ⟨⟨T, t1, t2, t3⟩, h2⟩ := h
  obtain ⟨⟨U, u1, u2, u3⟩, k2⟩ := k
  have := h2 U u1 u2
  have := k2 T t1 t2
  omega
def pthN (es : Es) (n a b : Nat) (gone : List Bool) : Nat → List Int → Int → Int
  | 0, _, v => v
  | f + 1, fl, v => match wid es n a b gone fl with
    | some fl' => pthN es n a b gone f fl' (v + 1)
    | none => v
/-- the greatest number of paths -/
def mfl (es : Es) (n : Nat) (gone : List Bool) (a b : Nat) : Int := pthN es n a b gone (es.length + 1) (List.replicate es.length 0) 0
theorem cutN_le (es : Es) (gone : List Bool) (T : Nat → Bool) : 0 ≤ cutN es gone T ∧ cutN es gone T ≤ es.length := by
  unfold cutN
  generalize es.length = m
  induction m with
  | zero => simp [sumI]
  | succ m ih => simp only [sumI]; split <;> omega
theorem IsFl.le {es : Es} {gone : List Bool} {a b : Nat} {fl : List Int} {v : Int} (h : IsFl es gone a b fl v) (hab : a ≠ b) : v ≤ es.length := by
  have h1 := h.out (fun x => decide (x = a)) (by simp) (by simp; exact fun e => hab e.symm)
  have h2 := out_le_cut h fun x => decide (x = a)
  have h3 := cutN_le es gone fun x => decide (x = a)
  omega
theorem pthN_mc {es : Es} {n a b : Nat} {gone : List Bool} (he : EsLt es n) (ha : a < n) (hab : a ≠ b) : ∀ (f : Nat) fl v, IsFl es gone a b fl v → (es.length : Int) < f + v → IsMC es gone a b (pthN es n a b gone f fl v)
  | 0, fl, v, hf, hl => by have := hf.le hab; omega
  | f + 1, fl, v, hf, hl => by
    simp only [pthN]
    cases hw : wid es n a b gone fl with
    | some fl' => exact pthN_mc he ha hab f fl' (v + 1) (wid_some he ha hf hw) (by omega)
    | none =>
      refine ⟨wid_none he ha hf hw, fun T h1 h2 => ?_⟩
      rw [← hf.out T h1 h2]
      exact out_le_cut hf T
theorem fl_zero (es : Es) (gone : List Bool) (a b : Nat) : IsFl es gone a b (List.replicate es.length 0) 0 where
  len := by simp
  bnd := fun k => by
    have : nth (List.replicate es.length (0 : Int)) k = 0 := by
      unfold nth; rw [List.getD, List.getElem?_replicate]; split <;> rfl
    omega
  gon := fun k _ _ => by unfold nth; rw [List.getD, List.getElem?_replicate]; split <;> rfl
  out := fun T _ _ => by
    unfold outS
    have : ∀ k, k < es.length → nth (List.replicate es.length (0 : Int)) k * (ib (T (nth es k).1) - ib (T (nth es k).2)) = 0 := fun k hk => by
      have : nth (List.replicate es.length (0 : Int)) k = 0 := by unfold nth; rw [List.getD, List.getElem?_replicate]; split <;> rfl
      rw [this, Int.zero_mul]
    rw [sumI_congr _ this]
    generalize es.length = m
    induction m with
    | zero => rfl
    | succ m ih => simp only [sumI, ih]; rfl
theorem mfl_mc {es : Es} {n a b : Nat} {gone : List Bool} (he : EsLt es n) (ha : a < n) (hab : a ≠ b) : IsMC es gone a b (mfl es n gone a b) :=
  pthN_mc he ha hab _ _ _ (fl_zero es gone a b) (by omega)
end Go.Proofs.Ytgldpbghbkoolaa

-- P p_15.txt
open Go Go.AL Go.RowKit
namespace Go.Proofs.Ytgldpbghbkoolaa
set_option maxRecDepth 20000
/-! ### dies and links of a valid graph -/
theorem dies_valid {g : Gr} (h : validG g = true) : diesV g = diesG g := by unfold diesV; rw [h]; rfl
theorem errV_valid {g : Gr} (h : validG g = true) : errV g = 0 := by unfold errV; rw [h]; rfl
theorem dies_len (g : Gr) : (diesG g).length = g.obv.length + g.rev.length := by unfold diesG; simp
theorem nodup_map_inj {α β : Type} {f : α → β} (hf : ∀ a b, f a = f b → a = b) {l : List α} (h : l.Nodup) : (l.map f).Nodup := by
  rw [List.nodup_iff_pairwise_ne] at h ⊢
  rw [List.pairwise_map]
  exact h.imp fun hne e => hne (hf _ _ e)
theorem valid_asc {g : Gr} (hv : validG g = true) : Asc g.obv ∧ Asc g.rev := by
  obtain ⟨a, b, _⟩ := (validG_iff g).1 hv
  unfold numV at a b
  simp only [Bool.and_eq_true] at a b
  exact ⟨ascV_asc a.1, ascV_asc b.1⟩
theorem dies_nodup {g : Gr} (h : validG g = true) : (diesG g).Nodup := by
  obtain ⟨a, b⟩ := valid_asc h
  unfold diesG
  rw [List.nodup_append]
  refine ⟨nodup_map_inj (fun x y e => by simpa using e) (a.imp fun h e => by omega), nodup_map_inj (fun x y e => by simpa using e) (b.imp fun h e => by omega), fun x hx y hy e => ?_⟩
  obtain ⟨n, _, rfl⟩ := List.mem_map.1 hx
  obtain ⟨m, _, rfl⟩ := List.mem_map.1 hy
  simp at e
theorem plc_nat {l : List Die} {x : Die} (h : x ∈ l) : plc l x = (plN l x : Int) := by
  unfold plN plc; rw [if_pos h]; omega
theorem plc_neg {l : List Die} {x : Die} (h : x ∉ l) : plc l x = -1 := by unfold plc; rw [if_neg h]
theorem valid_ids {g : Gr} (hv : validG g = true) : g.links.Pairwise fun x y => x.id < y.id := by
  obtain ⟨_, _, _, hl, _⟩ := (validG_iff g).1 hv
  have key : ∀ j, j < g.links.length → ∀ i, i < j → (nth g.links i).id < (nth g.links j).id := by
    intro j
    induction j with
    | zero => intro _ i hi; omega
    | succ j ih =>
      intro hj i hi
      have h1 := (hl (j + 1) hj).2.2.1 (by omega)
      simp only [Nat.add_sub_cancel] at h1
      rcases Nat.lt_succ_iff_lt_or_eq.1 hi with h2 | rfl
      · have := ih (by omega) i h2; omega
      · exact h1
  rw [List.pairwise_iff_getElem]
  intro i j hi hj hij
  have := key j hj i hij
  rwa [nth_eq _ i hi, nth_eq _ j hj] at this
theorem valid_lk {g : Gr} (hv : validG g = true) : ∀ x ∈ g.links, 1 ≤ x.id ∧ x.id ≤ 9999 ∧ x.obv ∈ g.obv ∧ x.rev ∈ g.rev := by
  obtain ⟨_, _, _, hl, _⟩ := (validG_iff g).1 hv
  intro x hx
  obtain ⟨i, hi, rfl⟩ := List.getElem_of_mem hx
  have := hl i hi
  unfold lkV at this
  rw [nth_eq _ i hi] at this
  exact ⟨this.1, this.2.1, this.2.2.2.1, this.2.2.2.2⟩
theorem valid_ends {g : Gr} (hv : validG g = true) : Ends (diesG g) g.links := fun x hx => by
  obtain ⟨_, _, h1, h2⟩ := valid_lk hv x hx
  unfold diesG
  exact ⟨by simp [Lk.o, h1], by simp [Lk.r, h2]⟩
theorem bef_nth {l : List Int} (h : Asc l) {i : Nat} (hi : i < l.length) : bef l (nth l i) = i := by
  have hp := List.pairwise_iff_getElem.1 h
  refine bef_eq h (by omega) (fun j hj => ?_) fun j hj hl => ?_
  · rw [nth_eq l j (by omega), nth_eq l i hi]; exact hp j i (by omega) hi hj
  · rw [nth_eq l j hl, nth_eq l i hi]
    by_cases e : i = j
    · subst e; omega
    · have := hp i j hi hl (by omega); omega
theorem bef_mem {l : List Int} (h : Asc l) {x : Int} (hx : x ∈ l) : bef l x < l.length ∧ nth l (bef l x) = x := by
  obtain ⟨i, hi, rfl⟩ := mem_nth hx
  rw [bef_nth h hi]; exact ⟨hi, rfl⟩
/-! ### the net of a graph -/
def esG (g : Gr) : Es := g.links.map fun x => (bef g.obv x.obv, g.obv.length + bef g.rev x.rev)
abbrev idsG (g : Gr) : List Int := g.links.map Lk.id
abbrev nG (g : Gr) : Nat := g.obv.length + g.rev.length
theorem nth_dies_o {g : Gr} {i : Nat} (h : i < g.obv.length) : nth (diesG g) i = ⟨0, nth g.obv i⟩ := by
  rw [nth_eq _ i (by rw [dies_len]; omega), nth_eq _ i h]
  unfold diesG
  rw [List.getElem_append_left (by simpa using h)]; simp
theorem nth_dies_r {g : Gr} {i : Nat} (h : i < g.rev.length) : nth (diesG g) (g.obv.length + i) = ⟨1, nth g.rev i⟩ := by
  rw [nth_eq _ _ (by rw [dies_len]; omega), nth_eq _ i h]
  unfold diesG
  rw [List.getElem_append_right (by simp)]; simp
theorem pl_o {g : Gr} (hv : validG g = true) {n : Int} (hn : n ∈ g.obv) : plN (diesG g) ⟨0, n⟩ = bef g.obv n := by
  obtain ⟨h1, h2⟩ := bef_mem (valid_asc hv).1 hn
  have := plN_nth (dies_nodup hv) (i := bef g.obv n) (by rw [dies_len]; omega)
  rwa [nth_dies_o h1, h2] at this
theorem pl_r {g : Gr} (hv : validG g = true) {n : Int} (hn : n ∈ g.rev) : plN (diesG g) ⟨1, n⟩ = g.obv.length + bef g.rev n := by
  obtain ⟨h1, h2⟩ := bef_mem (valid_asc hv).2 hn
  have := plN_nth (dies_nodup hv) (i := g.obv.length + bef g.rev n) (by rw [dies_len]; omega)
  rwa [nth_dies_r h1, h2] at this
/-- the net by the places of the dies -/
def esD (l : List Die) (ls : List Lk) : Es := ls.map fun x => (plN l x.o, plN l x.r)
theorem esG_eq {g : Gr} (hv : validG g = true) : esG g = esD (diesG g) g.links := by
  unfold esG esD
  refine List.map_congr_left fun x hx => ?_
  obtain ⟨_, _, h1, h2⟩ := valid_lk hv x hx
  have e1 := pl_o hv h1
  have e2 := pl_r hv h2
  rw [show x.o = ⟨0, x.obv⟩ from rfl, show x.r = ⟨1, x.rev⟩ from rfl, e1, e2]
theorem esD_lt {l : List Die} {ls : List Lk} (h : Ends l ls) : EsLt (esD l ls) l.length := fun k hk => by
  unfold esD at hk ⊢
  simp at hk
  have hx := h _ (nth_mem'' ls k hk)
  have : nth (ls.map fun x => (plN l x.o, plN l x.r)) k = (plN l (nth ls k).o, plN l (nth ls k).r) := by
    rw [nth_eq _ k (by simpa using hk), nth_eq ls k hk]; simp
  rw [this]
  exact ⟨(plN_mem hx.1).1, (plN_mem hx.2).1⟩
theorem esD_nth (l : List Die) (ls : List Lk) (k : Nat) (hk : k < ls.length) : nth (esD l ls) k = (plN l (nth ls k).o, plN l (nth ls k).r) := by
  unfold esD; rw [nth_eq _ k (by simpa using hk), nth_eq ls k hk]; simp
theorem esG_lt {g : Gr} (hv : validG g = true) : EsLt (esG g) (nG g) := by
  have := esD_lt (valid_ends hv)
  rw [dies_len] at this
  rw [esG_eq hv]; exact this
theorem esG_len (g : Gr) : (esG g).length = g.links.length := by simp [esG]
theorem take_map_s {α β : Type} [Inhabited α] (f : α → β) (l : List α) (i : Nat) (h : i < l.length) : (l.take (i + 1)).map f = (l.take i).map f ++ [f (nth l i)] := by
  rw [List.take_succ_eq_append_getElem h, nth_eq l i h, List.map_append]; rfl
end Go.Proofs.Ytgldpbghbkoolaa

