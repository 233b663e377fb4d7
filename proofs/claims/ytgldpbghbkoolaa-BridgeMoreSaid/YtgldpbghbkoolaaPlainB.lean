/-
  Lemmas for the proof: no statement of its own.
-/
import Derived.Test.YtgldpbghbkoolaaPlainA
set_option linter.unusedVariables false
set_option linter.unusedSimpArgs false
-- P p_15.txt
open Go Go.AL Go.RowKit
namespace Go.Proofs.Ytgldpbghbkoolaa
set_option maxRecDepth 20000
theorem nodup_le {α : Type} [DecidableEq α] : ∀ {l m : List α}, l.Nodup → (∀ x ∈ l, x ∈ m) → l.length ≤ m.length
  | [], m, _, _ => by simp
  | x :: l, m, hn, hs => by
    rw [List.nodup_cons] at hn
    have hx := hs x (by simp)
    have ih := nodup_le (l := l) (m := m.erase x) hn.2 fun y hy => (List.mem_erase_of_ne (fun e => hn.1 (by rw [← e]; exact hy))).2 (hs y (by simp [hy]))
    rw [List.length_erase_of_mem hx] at ih
    have : 0 < m.length := List.length_pos_of_mem hx
    simp only [List.length_cons]; omega
theorem bfs_len (g : List Lk) (s : Die) (h : Nat) (hl : h ≤ (bfsN g s h).length) : (bfsN g s h).length ≤ 2 * g.length + 1 := by
  have hi := bfs_inv g s h hl
  have := nodup_le (l := keysB (bfsN g s h)) (m := s :: (g.map Lk.o ++ g.map Lk.r)) hi.nd fun x hx => by
    rcases hi.sub x hx with e | ⟨l, hl, e | e⟩
    · simp [e]
    · simp only [List.mem_cons, List.mem_append, List.mem_map]; exact .inr (.inl ⟨l, hl, e.symm⟩)
    · simp only [List.mem_cons, List.mem_append, List.mem_map]; exact .inr (.inr ⟨l, hl, e.symm⟩)
  unfold keysB at this
  simp at this; omega
theorem bfs_stay (g : List Lk) (s : Die) (h : Nat) (hs : (bfsN g s h).length ≤ h) : ∀ k, bfsN g s (h + k) = bfsN g s h
  | 0 => rfl
  | k + 1 => by
    show bfsS g (h + k) (bfsN g s (h + k)) = _
    rw [bfs_stay g s h hs k]
    unfold bfsS
    rw [if_neg (by omega)]
theorem bfs_grow (g : List Lk) (s : Die) (h : Nat) : (bfsN g s h).length ≤ (bfsN g s (h + 1)).length := by
  show _ ≤ (bfsS g h (bfsN g s h)).length
  unfold bfsS
  split
  · obtain ⟨z, hz⟩ := foldL_ext (headB (bfsN g s h) h).1 (headB (bfsN g s h) h).2 g (bfsN g s h)
    rw [hz]; simp
  · exact Nat.le_refl _
/-- when the list is at its end -/
theorem bfs_ends (g : List Lk) (s : Die) : ∃ h, h = (bfsN g s h).length := by
  by_cases hc : ∃ h, (bfsN g s h).length ≤ h
  · obtain ⟨h, hh⟩ := hc
    induction h with
    | zero => exact ⟨0, by omega⟩
    | succ h ih =>
      by_cases hle : (bfsN g s h).length ≤ h
      · exact ih hle
      · have := bfs_grow g s h
        exact ⟨h + 1, by omega⟩
  · have : ∀ h, h < (bfsN g s h).length := fun h => Nat.lt_of_not_le fun hle => hc ⟨h, hle⟩
    have h1 := this (2 * g.length + 1)
    have h2 := bfs_len g s (2 * g.length + 1) (by omega)
    omega
def bfsA (g : List Lk) (s : Die) : BM := bfsN g s (2 * g.length + 1)
theorem bfsA_at {g : List Lk} {s : Die} {h : Nat} (hh : h = (bfsN g s h).length) : bfsA g s = bfsN g s h := by
  have hl := bfs_len g s h (by omega)
  unfold bfsA
  have := bfs_stay g s h (by omega) (2 * g.length + 1 - h)
  rwa [show h + (2 * g.length + 1 - h) = 2 * g.length + 1 by omega] at this
theorem bfsA_inv (g : List Lk) (s : Die) : BInv g s (bfsA g s).length (bfsA g s) := by
  obtain ⟨h, hh⟩ := bfs_ends g s
  rw [bfsA_at hh]
  have := bfs_inv g s h (by omega)
  rwa [← hh]
def lkB (M : BM) (x : Die) : Option Int := match M with
  | [] => none
  | (y, n) :: r => if x = y then some n else lkB r x
theorem lkB_mem {M : BM} {x : Die} {n : Int} (h : lkB M x = some n) : (x, n) ∈ M := by
  induction M with
  | nil => simp [lkB] at h
  | cons p M ih =>
    obtain ⟨y, m⟩ := p
    unfold lkB at h
    split at h
    · rename_i e; subst e; simp at h; subst h; simp
    · exact List.mem_cons_of_mem _ (ih h)
theorem lkB_none {M : BM} {x : Die} : lkB M x = none ↔ x ∉ keysB M := by
  induction M with
  | nil => simp [lkB, keysB]
  | cons p M ih =>
    obtain ⟨y, m⟩ := p
    unfold lkB
    unfold keysB at ih ⊢
    split
    · rename_i e; subst e; simp
    · rename_i e
      rw [ih, List.map_cons, List.mem_cons, not_or]
      exact ⟨fun h => ⟨e, h⟩, fun h => h.2⟩
theorem lkB_of {g : List Lk} {s : Die} {h : Nat} {M : BM} (hi : BInv g s h M) {x : Die} {n : Int} (hm : (x, n) ∈ M) : lkB M x = some n := by
  cases hl : lkB M x with
  | some m => rw [hi.val_uniq hm (lkB_mem hl)]
  | none => exact absurd (List.mem_map.2 ⟨_, hm, rfl⟩) (lkB_none.1 hl)
/-- the distance, if there is one -/
def dst (g : List Lk) (s x : Die) : Option Int := lkB (bfsA g s) x
theorem dst_some {g : List Lk} {s x : Die} {n : Int} : dst g s x = some n ↔ 0 ≤ n ∧ IsD g s x n.toNat := by
  have hi := bfsA_inv g s
  constructor
  · intro h
    obtain ⟨a, b, _⟩ := hi.isD (lkB_mem h)
    exact ⟨a, b⟩
  · rintro ⟨h0, hd⟩
    have := hi.of_isD hd
    rw [show ((n.toNat : Nat) : Int) = n by omega] at this
    exact lkB_of hi this
/-- a link leads to a die whose distance differs by one at most -/
theorem dst_adj {g : List Lk} {s x y : Die} {n : Int} (h : dst g s x = some n) (ha : Adj g x y) : ∃ m, dst g s y = some m ∧ m ≤ n + 1 ∧ n ≤ m + 1 := by
  rw [dst_some] at h
  obtain ⟨m, hm, hd⟩ := (Wk.cons h.2.1 ha).dist
  have hb := h.2.2 _ (Wk.cons hd.1 ha.symm)
  exact ⟨m, dst_some.2 ⟨by omega, by simpa using hd⟩, by omega, by omega⟩
/-! ### dies, and the reference's distances -/
def diesG (g : Gr) : List Die := g.obv.map (fun n => ⟨0, n⟩) ++ g.rev.map (fun n => ⟨1, n⟩)
/-- the ends of all links are there -/
def Ends (l : List Die) (g : List Lk) : Prop := ∀ k ∈ g, k.o ∈ l ∧ k.r ∈ l
def plN (l : List Die) (x : Die) : Nat := (plc l x).toNat
def setF (k : Int) (x y : Nat) (out : List Int) : List Int := if nth out x = k ∧ nth out y < 0 then out.set y (k + 1) else out
def farL (l : List Die) (k : Int) (out : List Int) (e : Lk) : List Int := setF k (plN l e.r) (plN l e.o) (setF k (plN l e.o) (plN l e.r) out)
theorem plN_mem {l : List Die} {x : Die} (h : x ∈ l) : plN l x < l.length ∧ nth l (plN l x) = x := by
  have h1 : l.idxOf x < l.length := List.idxOf_lt_length_iff.2 h
  have : plN l x = l.idxOf x := by unfold plN plc; rw [if_pos h]; omega
  rw [this]
  exact ⟨h1, by rw [nth_eq l _ h1]; exact List.getElem_idxOf h1⟩
theorem plN_nth {l : List Die} (hn : l.Nodup) {i : Nat} (hi : i < l.length) : plN l (nth l i) = i := by
  have hm : nth l i ∈ l := nth_mem' l i hi
  obtain ⟨h1, h2⟩ := plN_mem hm
  rw [nth_eq l _ h1] at h2
  exact (List.getElem_inj hn).1 (h2.trans (nth_eq l i hi))
/-- what the list says after k sweeps and the links seen of the next one -/
structure FInv (l : List Die) (g : List Lk) (s : Die) (k : Nat) (seen : Lk → Prop) (out : List Int) : Prop where
  len : out.length = l.length
  le : ∀ x ∈ l, ∀ n, dst g s x = some n → n ≤ k → nth out (plN l x) = n
  gt : ∀ x ∈ l, (∀ n, dst g s x = some n → (k : Int) + 1 < n) → nth out (plN l x) = -1
  at1 : ∀ x ∈ l, dst g s x = some ((k : Int) + 1) → nth out (plN l x) = -1 ∨ nth out (plN l x) = (k : Int) + 1
  hit : ∀ e, seen e → ∀ x y, across e x = some y → dst g s x = some (k : Int) → dst g s y = some ((k : Int) + 1) → nth out (plN l y) = (k : Int) + 1
theorem nth_set_i {out : List Int} {i j : Nat} {v : Int} (hi : i < out.length) : nth (out.set i v) j = if i = j then v else nth out j := by
  unfold nth
  rw [List.getD_eq_getElem?_getD, List.getD_eq_getElem?_getD, List.getElem?_set]
  by_cases h : i = j
  · subst h; simp [hi]
  · simp [h]
theorem FInv.half {l : List Die} {g : List Lk} {s : Die} {k : Nat} {seen : Lk → Prop} {out : List Int} (hf : FInv l g s k seen out) {x y : Die} (hx : x ∈ l) (hy : y ∈ l) (ha : Adj g x y) :
    FInv l g s k seen (setF k (plN l x) (plN l y) out) ∧ (dst g s x = some (k : Int) → dst g s y = some ((k : Int) + 1) → nth (setF k (plN l x) (plN l y) out) (plN l y) = (k : Int) + 1) := by
  obtain ⟨ly, ey⟩ := plN_mem hy
  unfold setF
  by_cases hc : nth out (plN l x) = k ∧ nth out (plN l y) < 0
  · rw [if_pos hc]
    -- x is at distance k
    have hdx : dst g s x = some (k : Int) := by
      cases hd : dst g s x with
      | none => have := hf.gt x hx (fun n h => by rw [hd] at h; cases h); omega
      | some n =>
        rcases Int.lt_trichotomy n ((k : Int) + 1) with h | h | h
        · have := hf.le x hx n hd (by omega); congr 1; omega
        · subst h; rcases hf.at1 x hx hd with h | h <;> omega
        · have := hf.gt x hx (fun m hm => by rw [hd] at hm; cases hm; omega); omega
    have hdy : dst g s y = some ((k : Int) + 1) := by
      obtain ⟨m, hm, h1, h2⟩ := dst_adj hdx ha
      have h0 := (dst_some.1 hm).1
      by_cases hle : m ≤ k
      · have := hf.le y hy m hm hle; omega
      · rw [hm]; congr 1; omega
    have hlt : plN l y < out.length := by rw [hf.len]; exact ly
    have hsame : ∀ z ∈ l, z ≠ y → nth (out.set (plN l y) (k + 1)) (plN l z) = nth out (plN l z) := fun z hz hne => by
      rw [nth_set_i hlt, if_neg]
      intro e
      have := (plN_mem hz).2
      rw [← e, ey] at this
      exact hne this.symm
    have hat : nth (out.set (plN l y) (k + 1)) (plN l y) = (k : Int) + 1 := by rw [nth_set_i hlt, if_pos rfl]
    refine ⟨⟨by simp [hf.len], fun z hz n hn hle => ?_, fun z hz hz' => ?_, fun z hz hd => ?_, fun e he a b hab h1 h2 => ?_⟩, fun _ _ => hat⟩
    · rw [hsame z hz (fun e => by subst e; rw [hdy] at hn; cases hn; omega)]; exact hf.le z hz n hn hle
    · rw [hsame z hz (fun e => by subst e; have := hz' _ hdy; omega)]; exact hf.gt z hz hz'
    · by_cases e : z = y
      · subst e; exact .inr hat
      · rw [hsame z hz e]; exact hf.at1 z hz hd
    · have hb := hf.hit e he a b hab h1 h2
      by_cases e' : b = y
      · subst e'; exact hat
      · by_cases hbl : plN l b = plN l y
        · rw [hbl]; exact hat
        · rw [nth_set_i hlt, if_neg (fun e => hbl e.symm)]; exact hb
  · rw [if_neg hc]
    refine ⟨hf, fun h1 h2 => ?_⟩
    have a := hf.le x hx k h1 (by omega)
    rcases hf.at1 y hy h2 with h | h
    · exact absurd ⟨a, by omega⟩ hc
    · exact h
theorem FInv.link {l : List Die} {g : List Lk} {s : Die} {k : Nat} {seen : Lk → Prop} {out : List Int} (hf : FInv l g s k seen out) (he : Ends l g) {e : Lk} (hm : e ∈ g) :
    FInv l g s k (fun x => seen x ∨ x = e) (farL l k out e) := by
  obtain ⟨ho, hr⟩ := he e hm
  have a1 : Adj g e.o e.r := ⟨e, hm, across_iff.2 (.inl ⟨rfl, rfl⟩)⟩
  obtain ⟨f1, p1⟩ := hf.half ho hr a1
  obtain ⟨f2, p2⟩ := f1.half hr ho a1.symm
  unfold farL
  refine ⟨f2.len, f2.le, f2.gt, f2.at1, fun e' h x y hxy h1 h2 => ?_⟩
  rcases h with h | rfl
  · exact f2.hit e' h x y hxy h1 h2
  · rw [across_iff] at hxy
    rcases hxy with ⟨rfl, rfl⟩ | ⟨rfl, rfl⟩
    · have q := p1 h1 h2
      have hl := (plN_mem hr).1
      unfold setF at q ⊢
      generalize (if nth out (plN l e'.o) = (k : Int) ∧ nth out (plN l e'.r) < 0 then out.set (plN l e'.r) (k + 1) else out) = o1 at q ⊢
      by_cases hc : nth o1 (plN l e'.r) = (k : Int) ∧ nth o1 (plN l e'.o) < 0
      · omega
      · rw [if_neg hc]; exact q
    · exact p2 h1 h2
theorem FInv.links {l : List Die} {g : List Lk} {s : Die} {k : Nat} (he : Ends l g) : ∀ (ls : List Lk) (seen : Lk → Prop) (out : List Int), (∀ e ∈ ls, e ∈ g) → FInv l g s k seen out → FInv l g s k (fun x => seen x ∨ x ∈ ls) (ls.foldl (farL l k) out)
  | [], seen, out, _, hf => ⟨hf.len, hf.le, hf.gt, hf.at1, fun e h => hf.hit e (by simpa using h)⟩
  | e :: ls, seen, out, hs, hf => by
    have h1 := hf.link he (hs e (by simp))
    have h2 := FInv.links he ls _ _ (fun x hx => hs x (by simp [hx])) h1
    rw [List.foldl_cons]
    refine ⟨h2.len, h2.le, h2.gt, h2.at1, fun x h => h2.hit x ?_⟩
    rcases h with h | h
    · exact .inl (.inl h)
    · rcases List.mem_cons.1 h with rfl | h
      · exact .inl (.inr rfl)
      · exact .inr h
end Go.Proofs.Ytgldpbghbkoolaa

