/-
  Lemmas for the proof: no statement of its own.
-/
import Derived.Test.YtgldpbghbkoolaaAlD
set_option linter.unusedVariables false
set_option linter.unusedSimpArgs false
-- P p_15.txt
open Go Go.AL Go.RowKit
namespace Go.Proofs.Ytgldpbghbkoolaa
abbrev Row (l : List Int) : CD := .sl 1 (l.map fun x => [CD.I x])
abbrev ORow (l : List Int) : RV := .own 3 1 (l.map fun x => [CD.I x])
structure Die where
  (side num : Int)
deriving DecidableEq, Inhabited
def Die.cd (d : Die) : List CD := [.I d.side, .I d.num]
abbrev Die.av (d : Die) : AV := .agg [.I d.side, .I d.num]
structure Lk where
  (id obv rev : Int)
deriving DecidableEq, Inhabited
def Lk.cd (d : Lk) : List CD := [.I d.id, .I d.obv, .I d.rev]
abbrev Lk.av (d : Lk) : AV := .agg [.I d.id, .I d.obv, .I d.rev]
abbrev LL (l : List Lk) : CD := .sl 3 (l.map Lk.cd)
abbrev DL (l : List Die) : CD := .sl 2 (l.map Die.cd)
structure Gr where
  (obv rev : List Int) (links : List Lk)
deriving DecidableEq, Inhabited
abbrev Gr.av (g : Gr) : AV := .agg [.c (Row g.obv), .c (Row g.rev), .c (LL g.links)]
def Lk.o (l : Lk) : Die := ⟨0, l.obv⟩
def Lk.r (l : Lk) : Die := ⟨1, l.rev⟩
theorem die_ext {a b : Die} : a = b ↔ a.side = b.side ∧ a.num = b.num := by cases a; cases b; simp
theorem step_lt {p : Nat → Prop} {i : Nat} (h : ∀ j, j < i → p j) (hi : p i) : ∀ j, j < i + 1 → p j := fun j hj => by
  rcases Nat.lt_succ_iff_lt_or_eq.1 hj with h' | rfl
  · exact h j h'
  · exact hi
theorem not_mem_nth {α : Type} [Inhabited α] {l : List α} {x : α} (h : ∀ j, j < l.length → nth l j ≠ x) : x ∉ l := by
  intro hm
  obtain ⟨j, hj, e⟩ := List.getElem_of_mem hm
  exact h j hj (by rw [nth_eq l j hj]; exact e)
theorem nth_mem' {α : Type} [Inhabited α] (l : List α) (i : Nat) (h : i < l.length) : nth l i ∈ l := by rw [nth_eq l i h]; exact List.getElem_mem h
theorem eq_of_nth {α : Type} [Inhabited α] {a b : List α} (hl : a.length = b.length) (h : ∀ j, j < a.length → nth a j = nth b j) : a = b := by
  apply List.ext_getElem hl
  intro i h1 h2
  have := h i h1
  rwa [nth_eq a i h1, nth_eq b i h2] at this
/-- the place in a list, -1 if there is none -/
def plc {α : Type} [DecidableEq α] (l : List α) (x : α) : Int := if x ∈ l then (l.idxOf x : Int) else -1
theorem plc_found {α : Type} [DecidableEq α] [Inhabited α] {l : List α} {x : α} {i : Nat} (hi : i < l.length) (h : nth l i = x) (hb : ∀ j, j < i → nth l j ≠ x) : plc l x = i := by
  have hm : x ∈ l := h ▸ nth_mem' l i hi
  unfold plc
  rw [if_pos hm]
  have h1 : l.idxOf x < l.length := List.idxOf_lt_length_iff.2 hm
  have h2 : l[l.idxOf x] = x := List.getElem_idxOf h1
  have h3 : ¬ l.idxOf x < i := fun hl => hb _ hl (by rw [nth_eq l _ h1]; exact h2)
  have h4 : ¬ i < l.idxOf x := fun hl => by
    have := List.not_of_lt_findIdx (p := (· == x)) (xs := l) hl
    rw [nth_eq l i hi] at h
    simp [h] at this
  omega
theorem plc_none {α : Type} [DecidableEq α] [Inhabited α] {l : List α} {x : α} (h : ∀ j, j < l.length → nth l j ≠ x) : plc l x = -1 := by
  unfold plc; rw [if_neg (not_mem_nth h)]
end Go.Proofs.Ytgldpbghbkoolaa

