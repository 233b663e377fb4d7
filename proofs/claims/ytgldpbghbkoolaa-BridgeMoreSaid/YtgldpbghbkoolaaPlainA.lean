/-
  Lemmas for the proof: no statement of its own.
-/
import Derived.Test.YtgldpbghbkoolaaDefsA
set_option linter.unusedVariables false
set_option linter.unusedSimpArgs false
-- P p_15.txt
open Go Go.AL Go.RowKit
namespace Go.Proofs.Ytgldpbghbkoolaa
set_option maxRecDepth 20000
/-! ### walks in a graph, and the breadth-first list -/
def across (l : Lk) (d : Die) : Option Die := if d = l.o then some l.r else if d = l.r then some l.o else none
def Adj (g : List Lk) (x y : Die) : Prop := ∃ l ∈ g, across l x = some y
theorem or_ne (l k : Lk) : l.o ≠ k.r := by
  intro h; have := congrArg Die.side h; simp [Lk.o, Lk.r] at this
theorem across_iff {l : Lk} {x y : Die} : across l x = some y ↔ (x = l.o ∧ y = l.r) ∨ (x = l.r ∧ y = l.o) := by
  unfold across
  constructor
  · intro h
    split at h
    · rename_i e; simp at h; exact .inl ⟨e, h.symm⟩
    · split at h
      · rename_i e; simp at h; exact .inr ⟨e, h.symm⟩
      · cases h
  · rintro (⟨h1, h2⟩ | ⟨h1, h2⟩)
    · rw [if_pos h1, h2]
    · subst h1; rw [if_neg (fun e => or_ne l l e.symm), if_pos rfl, h2]
theorem across_symm {l : Lk} {x y : Die} (h : across l x = some y) : across l y = some x := by
  rw [across_iff] at h ⊢
  rcases h with ⟨h1, h2⟩ | ⟨h1, h2⟩
  · exact .inr ⟨h2, h1⟩
  · exact .inl ⟨h2, h1⟩
theorem Adj.symm {g : List Lk} {x y : Die} (h : Adj g x y) : Adj g y x := by
  obtain ⟨l, hl, h⟩ := h; exact ⟨l, hl, across_symm h⟩
/-- a walk of a length -/
inductive Wk (g : List Lk) (a : Die) : Nat → Die → Prop
  | nil : Wk g a 0 a
  | cons {n : Nat} {x y : Die} (h : Wk g a n x) (e : Adj g x y) : Wk g a (n + 1) y
theorem Wk.snocL {g : List Lk} {a b c : Die} {n : Nat} (e : Adj g a b) (h : Wk g b n c) : Wk g a (n + 1) c := by
  induction h with
  | nil => exact .cons .nil e
  | cons _ e' ih => exact .cons ih e'
theorem Wk.symm {g : List Lk} {a b : Die} {n : Nat} (h : Wk g a n b) : Wk g b n a := by
  induction h with
  | nil => exact .nil
  | cons _ e ih => exact Wk.snocL e.symm ih
theorem Wk.app {g : List Lk} {a b c : Die} {n m : Nat} (h : Wk g a n b) (k : Wk g b m c) : Wk g a (n + m) c := by
  induction k with
  | nil => exact h
  | cons _ e ih => exact .cons ih e
theorem Wk.split {g : List Lk} {a b : Die} : ∀ {n : Nat}, Wk g a (n + 1) b → ∃ c, Wk g a n c ∧ Adj g c b
  | n, .cons h e => ⟨_, h, e⟩
/-- a shortest walk has this length -/
def IsD (g : List Lk) (a b : Die) (n : Nat) : Prop := Wk g a n b ∧ ∀ m, Wk g a m b → n ≤ m
theorem IsD.uniq {g : List Lk} {a b : Die} {n m : Nat} (h : IsD g a b n) (k : IsD g a b m) : n = m := Nat.le_antisymm (h.2 _ k.1) (k.2 _ h.1)
theorem IsD.symm {g : List Lk} {a b : Die} {n : Nat} (h : IsD g a b n) : IsD g b a n := ⟨h.1.symm, fun m k => h.2 m k.symm⟩
theorem Wk.dist {g : List Lk} {a b : Die} {n : Nat} (h : Wk g a n b) : ∃ m, m ≤ n ∧ IsD g a b m := by
  induction n using Nat.strongRecOn with
  | _ n ih =>
    by_cases hm : ∃ m, m < n ∧ Wk g a m b
    · obtain ⟨m, h1, h2⟩ := hm
      obtain ⟨k, h3, h4⟩ := ih m h1 h2
      exact ⟨k, by omega, h4⟩
    · exact ⟨n, Nat.le_refl _, h, fun m hk => Nat.le_of_not_lt fun hl => hm ⟨m, hl, hk⟩⟩

abbrev BM := List (Die × Int)
def keysB (M : BM) : List Die := M.map Prod.fst
def addL (d : Die) (v : Int) (M : BM) (l : Lk) : BM := match across l d with
  | some y => if y ∈ keysB M then M else M ++ [(y, v + 1)]
  | none => M
def headB (M : BM) (h : Nat) : Die × Int := M.getD h default
def bfsS (g : List Lk) (h : Nat) (M : BM) : BM := if h < M.length then g.foldl (addL (headB M h).1 (headB M h).2) M else M
def bfsN (g : List Lk) (s : Die) : Nat → BM
  | 0 => [(s, 0)]
  | h + 1 => bfsS g h (bfsN g s h)
theorem addL_ext (d : Die) (v : Int) (M : BM) (l : Lk) : ∃ z, addL d v M l = M ++ z := by
  unfold addL
  split
  · split
    · exact ⟨[], by simp⟩
    · exact ⟨_, rfl⟩
  · exact ⟨[], by simp⟩
theorem foldL_ext (d : Die) (v : Int) : ∀ (ls : List Lk) (M : BM), ∃ z, ls.foldl (addL d v) M = M ++ z
  | [], M => ⟨[], by simp⟩
  | l :: ls, M => by
    obtain ⟨z, hz⟩ := addL_ext d v M l
    obtain ⟨z', hz'⟩ := foldL_ext d v ls (addL d v M l)
    exact ⟨z ++ z', by rw [List.foldl_cons, hz', hz, List.append_assoc]⟩
/-- what holds of the list while the die at place h is worked on -/
structure BInv (g : List Lk) (s : Die) (h : Nat) (M : BM) : Prop where
  nd : (keysB M).Nodup
  fst : M[0]? = some (s, 0)
  wk : ∀ x n, (x, n) ∈ M → 0 ≤ n ∧ Wk g s n.toNat x
  mono : ∀ (i j : Nat) (x : Die) (n : Int) (y : Die) (m : Int), i ≤ j → M[i]? = some (x, n) → M[j]? = some (y, m) → n ≤ m
  near : ∀ (i : Nat) (x : Die) (n : Int) (y : Die) (m : Int), M[h]? = some (x, n) → M[i]? = some (y, m) → m ≤ n + 1
  done : ∀ (i : Nat) (x : Die) (n : Int) (y : Die), i < h → M[i]? = some (x, n) → Adj g x y → ∃ m, (y, m) ∈ M ∧ m ≤ n + 1
  idx : ∀ (i : Nat) (x : Die) (n : Int), M[i]? = some (x, n) → n ≤ (i : Int)
  sub : ∀ x ∈ keysB M, x = s ∨ ∃ l ∈ g, x = l.o ∨ x = l.r
theorem BInv.start (g : List Lk) (s : Die) : BInv g s 0 [(s, 0)] where
  nd := by simp [keysB]
  fst := rfl
  wk := fun x n h => by simp at h; obtain ⟨rfl, rfl⟩ := h; exact ⟨by omega, .nil⟩
  mono := fun i j x n y m _ h1 h2 => by
    have e1 := (List.getElem?_eq_some_iff.1 h1).1; have e2 := (List.getElem?_eq_some_iff.1 h2).1
    simp at e1 e2; subst e1; subst e2; simp at h1 h2; omega
  near := fun i x n y m h1 h2 => by
    have e2 := (List.getElem?_eq_some_iff.1 h2).1
    simp at e2; subst e2; simp at h1 h2; omega
  done := fun i x n y h => by omega
  idx := fun i x n h => by
    have e1 := (List.getElem?_eq_some_iff.1 h).1
    simp at e1; subst e1; simp at h; omega
  sub := fun x h => by simp [keysB] at h; exact .inl h
theorem get_append_one {α : Type} {M : List α} {e : α} {i : Nat} {x : α} (h : (M ++ [e])[i]? = some x) : (i < M.length ∧ M[i]? = some x) ∨ (i = M.length ∧ x = e) := by
  rcases Nat.lt_trichotomy i M.length with hi | hi | hi
  · rw [List.getElem?_append_left hi] at h; exact .inl ⟨hi, h⟩
  · subst hi; simp at h; exact .inr ⟨rfl, h.symm⟩
  · have := (List.getElem?_eq_some_iff.1 h).1; simp at this; omega
/-- one more link looked at -/
theorem BInv.link {g : List Lk} {s : Die} {h : Nat} {M : BM} {d : Die} {v : Int} (hi : BInv g s h M) (hd : M[h]? = some (d, v)) {l : Lk} (hl : l ∈ g) :
    BInv g s h (addL d v M l) ∧ (addL d v M l)[h]? = some (d, v) ∧ ∀ y, across l d = some y → ∃ m, (y, m) ∈ addL d v M l ∧ m ≤ v + 1 := by
  unfold addL
  split
  · rename_i y hy
    split
    · rename_i hk
      refine ⟨hi, hd, fun y' hy' => ?_⟩
      rw [hy] at hy'; cases hy'
      obtain ⟨p, hp, rfl⟩ := List.mem_map.1 hk
      obtain ⟨i, hi'⟩ := List.getElem?_of_mem hp
      exact ⟨p.2, hp, hi.near i d v p.1 p.2 hd hi'⟩
    · rename_i hk
      have hhl : h < M.length := (List.getElem?_eq_some_iff.1 hd).1
      have hv := hi.wk d v (List.mem_of_getElem? hd)
      refine ⟨⟨?_, ?_, ?_, ?_, ?_, ?_, ?_, ?_⟩, by rw [List.getElem?_append_left hhl]; exact hd, fun y' hy' => ?_⟩
      · unfold keysB; rw [List.map_append, List.nodup_append]
        refine ⟨hi.nd, by simp, fun a ha b hb => ?_⟩
        simp at hb; subst hb
        intro e; subst e; exact hk ha
      · rw [List.getElem?_append_left (by omega)]; exact hi.fst
      · intro x n hx
        rcases List.mem_append.1 hx with hx | hx
        · exact hi.wk x n hx
        · simp at hx; obtain ⟨rfl, rfl⟩ := hx
          refine ⟨by omega, ?_⟩
          rw [show (v + 1).toNat = v.toNat + 1 by omega]
          exact .cons hv.2 ⟨l, hl, hy⟩
      · intro i j x n y' m hij h1 h2
        rcases get_append_one h1 with ⟨a1, a2⟩ | ⟨a1, a2⟩ <;> rcases get_append_one h2 with ⟨b1, b2⟩ | ⟨b1, b2⟩
        · exact hi.mono i j x n y' m hij a2 b2
        · cases b2; exact hi.near i d v x n hd a2
        · omega
        · cases a2; cases b2; omega
      · intro i x n y' m h1 h2
        rw [List.getElem?_append_left hhl, hd] at h1; cases h1
        rcases get_append_one h2 with ⟨b1, b2⟩ | ⟨b1, b2⟩
        · exact hi.near i d v y' m hd b2
        · cases b2; omega
      · intro i x n y' hlt h1 ha
        rw [List.getElem?_append_left (by omega)] at h1
        obtain ⟨m, hm, hle⟩ := hi.done i x n y' hlt h1 ha
        exact ⟨m, List.mem_append_left _ hm, hle⟩
      · intro i x n h1
        rcases get_append_one h1 with ⟨a1, a2⟩ | ⟨a1, a2⟩
        · exact hi.idx i x n a2
        · cases a2
          have := hi.idx h d v hd
          omega
      · intro x hx
        unfold keysB at hx
        rw [List.map_append] at hx
        rcases List.mem_append.1 hx with hx | hx
        · exact hi.sub x hx
        · simp at hx; subst hx
          rw [across_iff] at hy
          rcases hy with ⟨_, e⟩ | ⟨_, e⟩
          · exact .inr ⟨l, hl, .inr e⟩
          · exact .inr ⟨l, hl, .inl e⟩
      · rw [hy] at hy'; cases hy'
        exact ⟨v + 1, by simp, by omega⟩
  · rename_i hy
    exact ⟨hi, hd, fun y' hy' => by rw [hy] at hy'; cases hy'⟩
theorem BInv.links {g : List Lk} {s : Die} {h : Nat} {d : Die} {v : Int} : ∀ (ls : List Lk) (M : BM), (∀ l ∈ ls, l ∈ g) → BInv g s h M → M[h]? = some (d, v) →
    BInv g s h (ls.foldl (addL d v) M) ∧ (ls.foldl (addL d v) M)[h]? = some (d, v) ∧ ∀ l ∈ ls, ∀ y, across l d = some y → ∃ m, (y, m) ∈ ls.foldl (addL d v) M ∧ m ≤ v + 1
  | [], M, _, hi, hd => ⟨hi, hd, fun l h => by simp at h⟩
  | l :: ls, M, hs, hi, hd => by
    obtain ⟨h1, h2, h3⟩ := hi.link hd (hs l (by simp))
    obtain ⟨q1, q2, q3⟩ := BInv.links ls _ (fun k hk => hs k (by simp [hk])) h1 h2
    refine ⟨q1, q2, fun k hk y hy => ?_⟩
    rcases List.mem_cons.1 hk with rfl | hk
    · obtain ⟨m, hm, hle⟩ := h3 y hy
      obtain ⟨z, hz⟩ := foldL_ext d v ls (addL d v M k)
      exact ⟨m, by rw [List.foldl_cons, hz]; exact List.mem_append_left _ hm, hle⟩
    · exact q3 k hk y hy
theorem BInv.next {g : List Lk} {s : Die} {h : Nat} {M : BM} (hi : BInv g s h M) (hl : h < M.length) : BInv g s (h + 1) (bfsS g h M) := by
  unfold bfsS
  rw [if_pos hl]
  have hd : M[h]? = some ((headB M h).1, (headB M h).2) := by
    unfold headB; rw [List.getD_eq_getElem?_getD, List.getElem?_eq_getElem hl]; rfl
  generalize (headB M h).1 = d at *
  generalize (headB M h).2 = v at *
  obtain ⟨q1, q2, q3⟩ := BInv.links g M (fun _ h => h) hi hd
  refine ⟨q1.nd, q1.fst, q1.wk, q1.mono, fun i x n y m h1 h2 => ?_, fun i x n y hlt h1 ha => ?_, q1.idx, q1.sub⟩
  · have a := q1.mono h (h + 1) d v x n (by omega) q2 h1
    have b := q1.near i d v y m q2 h2
    omega
  · by_cases hih : i = h
    · subst hih
      rw [q2] at h1; cases h1
      obtain ⟨l, hl', hy⟩ := ha
      exact q3 l hl' y hy
    · exact q1.done i x n y (by omega) h1 ha
theorem bfs_inv (g : List Lk) (s : Die) : ∀ h, h ≤ (bfsN g s h).length → BInv g s h (bfsN g s h)
  | 0, _ => BInv.start g s
  | h + 1, hl => by
    have hlt : h < (bfsN g s h).length := by
      by_cases hc : h < (bfsN g s h).length
      · exact hc
      · simp only [bfsN, bfsS, if_neg hc] at hl; omega
    exact (bfs_inv g s h (by omega)).next hlt
/-- the list at its end tells the distances -/
theorem BInv.end_wk {g : List Lk} {s : Die} {M : BM} (hi : BInv g s M.length M) {n : Nat} {y : Die} (h : Wk g s n y) : ∃ m, (y, m) ∈ M ∧ m ≤ (n : Int) := by
  induction h with
  | nil => exact ⟨0, List.mem_of_getElem? hi.fst, by omega⟩
  | cons _ e ih =>
    obtain ⟨m, hm, hle⟩ := ih
    obtain ⟨i, hi'⟩ := List.getElem?_of_mem hm
    obtain ⟨m', h1, h2⟩ := hi.done i _ _ _ (List.getElem?_eq_some_iff.1 hi').1 hi' e
    exact ⟨m', h1, by omega⟩
theorem BInv.val_uniq {g : List Lk} {s : Die} {h : Nat} {M : BM} (hi : BInv g s h M) {x : Die} {n m : Int} (h1 : (x, n) ∈ M) (h2 : (x, m) ∈ M) : n = m := by
  have key : ∀ {M : BM}, (keysB M).Nodup → (x, n) ∈ M → (x, m) ∈ M → n = m := by
    intro M
    induction M with
    | nil => intro _ h; simp at h
    | cons p M ih =>
      intro hnd h1 h2
      unfold keysB at hnd
      rw [List.map_cons, List.nodup_cons] at hnd
      rcases List.mem_cons.1 h1 with e1 | k1 <;> rcases List.mem_cons.1 h2 with e2 | k2
      · rw [← e1] at e2; cases e2; rfl
      · subst e1; exact absurd (List.mem_map.2 ⟨(x, m), k2, rfl⟩ : x ∈ M.map Prod.fst) hnd.1
      · subst e2; exact absurd (List.mem_map.2 ⟨(x, n), k1, rfl⟩ : x ∈ M.map Prod.fst) hnd.1
      · exact ih hnd.2 k1 k2
  exact key hi.nd h1 h2
theorem BInv.isD {g : List Lk} {s : Die} {M : BM} (hi : BInv g s M.length M) {x : Die} {n : Int} (h : (x, n) ∈ M) : 0 ≤ n ∧ IsD g s x n.toNat ∧ n < M.length := by
  obtain ⟨h0, hw⟩ := hi.wk x n h
  obtain ⟨i, hi'⟩ := List.getElem?_of_mem h
  have hlt := (List.getElem?_eq_some_iff.1 hi').1
  have := hi.idx i x n hi'
  refine ⟨h0, ⟨hw, fun m hm => ?_⟩, by omega⟩
  obtain ⟨k, hk, hle⟩ := hi.end_wk hm
  have := hi.val_uniq h hk
  omega
theorem BInv.of_isD {g : List Lk} {s : Die} {M : BM} (hi : BInv g s M.length M) {x : Die} {n : Nat} (h : IsD g s x n) : (x, (n : Int)) ∈ M := by
  obtain ⟨m, hm, _⟩ := hi.end_wk h.1
  obtain ⟨h0, hd, _⟩ := hi.isD hm
  have := hd.uniq h
  rw [show (n : Int) = m by omega]; exact hm
end Go.Proofs.Ytgldpbghbkoolaa

