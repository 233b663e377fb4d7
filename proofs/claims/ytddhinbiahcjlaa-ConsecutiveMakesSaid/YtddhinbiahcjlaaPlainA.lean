/-
  Lemmas for the proof: no statement of its own.
-/
import Derived.Test.YtddhinbiahcjlaaWalkB
set_option linter.unusedVariables false
set_option linter.unusedSimpArgs false
open Go Go.AL Go.RowKit
namespace Go.Proofs.Ytddhinbiahcjlaa
set_option maxRecDepth 20000

/-! ### PLAIN: the walk makes the orders without gaps -/
theorem pig : ∀ (n : Nat) (l : List Int), l.Nodup → (∀ x ∈ l, 0 ≤ x ∧ x < n) → l.length ≤ n
  | 0, l, _, h => by
    cases l with
    | nil => simp
    | cons a r => have := h a (by simp); omega
  | n + 1, l, hn, h => by
    have h1 := pig n (l.erase (n : Int)) (hn.erase _) (fun x hx => by
      have h2 := h x (List.mem_of_mem_erase hx)
      have h3 : x ≠ (n : Int) := fun e => by subst e; exact (hn.not_mem_erase) hx
      omega)
    have := List.le_length_erase (a := (n : Int)) (l := l)
    omega
theorem pig_mem {n : Nat} {l : List Int} (hn : l.Nodup) (h : ∀ x ∈ l, 0 ≤ x ∧ x < n) (hl : l.length = n) {c : Int} (h0 : 0 ≤ c) (h1 : c < n) : c ∈ l := by
  by_cases hc : c ∈ l
  · exact hc
  · have := pig n (c :: l) (List.nodup_cons.2 ⟨hc, hn⟩) (fun x hx => by
      rcases List.mem_cons.1 hx with rfl | hx
      · exact ⟨h0, h1⟩
      · exact h x hx)
    simp at this; omega

structure Pre (n : Nat) (b : List Int) : Prop where
  nd : b.Nodup
  rg : ∀ x ∈ b, 0 ≤ x ∧ x < (n : Int)
/-! runs -/
end Go.Proofs.Ytddhinbiahcjlaa

open Go Go.AL Go.RowKit
namespace Go.Proofs.Ytddhinbiahcjlaa
set_option maxRecDepth 20000

structure TabOk (n : Nat) (t : List (List Int)) : Prop where
  nd : ∀ i, i < t.length → (nth t i).Nodup
  rg : ∀ i, i < t.length → ∀ x ∈ nth t i, 0 ≤ x ∧ x < (n : Int)
structure Inv (n : Nat) (t : List (List Int)) (b left : List Int) : Prop where
  pre : Pre n b
  ll : left.length = t.length
  cnt : ∀ i, i < t.length → nth left i = (((nth t i).filter fun x => decide (x ∉ b)).length : Int)
  one : ∀ i, i < t.length → runsN (nth t i) b b.length ≤ 1
  lst : ∀ i, i < t.length → 0 < nth left i → nth left i < (nth t i).length → b.length ≠ 0 ∧ nth b (b.length - 1) ∈ nth t i
end Go.Proofs.Ytddhinbiahcjlaa

open Go Go.AL Go.RowKit
namespace Go.Proofs.Ytddhinbiahcjlaa
set_option maxRecDepth 20000

/-! ### no gap, in words of sublists -/
def C1 (o r : List Int) : Prop := ∀ x y z, [x, y, z].Sublist o → x ∈ r → z ∈ r → y ∈ r
theorem C1.sub {o o' r : List Int} (h : C1 o r) (hs : o'.Sublist o) : C1 o' r := fun x y z h' => h x y z (h'.trans hs)
/-! ### an order of some columns without a gap in some rows -/
def PO (t : List (List Int)) (rows cols : List Int) : Prop := ∃ o : List Int, o.Nodup ∧ (∀ x, x ∈ o ↔ x ∈ cols) ∧ ∀ j ∈ rows, C1 o (nth t j.toNat)
theorem PO.mono {t : List (List Int)} {rows cols rows' cols' : List Int} (h : PO t rows cols) (hr : ∀ j ∈ rows', j ∈ rows) (hc : ∀ j ∈ cols', j ∈ cols) : PO t rows' cols' := by
  obtain ⟨o, h1, h2, h3⟩ := h
  refine ⟨o.filter fun x => decide (x ∈ cols'), h1.sublist List.filter_sublist, fun x => ?_, fun j hj => (h3 j (hr j hj)).sub List.filter_sublist⟩
  simp only [List.mem_filter, decide_eq_true_eq]
  exact ⟨fun h => h.2, fun h => ⟨(h2 x).2 (hc x h), h⟩⟩
theorem mem_upto {n : Nat} {x : Int} : x ∈ upto n ↔ 0 ≤ x ∧ x < n := by
  unfold upto
  simp only [List.mem_map, List.mem_range]
  constructor
  · rintro ⟨k, h, rfl⟩; omega
  · intro h; exact ⟨x.toNat, by omega, by omega⟩
theorem upto_pw (n : Nat) : (upto n).Pairwise (· < ·) := by
  unfold upto
  rw [List.pairwise_map]
  exact List.pairwise_lt_range.imp fun h => by omega
theorem upto_nth {n i : Nat} (h : i < n) : nth (upto n) i = i := by
  rw [nth_eq _ i (by rw [upto_len]; exact h)]
  simp [upto]
theorem pre_iff {n : Nat} {o : List Int} : (Pre n o ∧ o.length = n) ↔ (o.Nodup ∧ ∀ x, x ∈ o ↔ x ∈ upto n) := by
  constructor
  · rintro ⟨h, hl⟩
    refine ⟨h.nd, fun x => ?_⟩
    rw [mem_upto]
    exact ⟨h.rg x, fun hx => pig_mem h.nd h.rg hl hx.1 hx.2⟩
  · rintro ⟨h1, h2⟩
    refine ⟨⟨h1, fun x hx => mem_upto.1 ((h2 x).1 hx)⟩, ?_⟩
    have := ((List.perm_ext_iff_of_nodup h1 (pw_nodup (upto_pw n))).2 h2).length_eq
    rw [this, upto_len]
theorem C1.map {o r r' : List Int} {f : Int → Int} (h : C1 o r) (hf : ∀ x ∈ o, f x ∈ r' ↔ x ∈ r) : C1 (o.map f) r' := by
  intro x y z hs hx hz
  obtain ⟨l, hl, e⟩ := List.sublist_map_iff.1 hs
  match l, e with
  | [a, b, c], e =>
    simp only [List.map_cons, List.map_nil, List.cons.injEq, and_true] at e
    obtain ⟨rfl, rfl, rfl⟩ := e
    have hm := hl.subset
    exact (hf b (hm (by simp))).2 (h a b c hl ((hf a (hm (by simp))).1 hx) ((hf c (hm (by simp))).1 hz))
theorem nth_inj {l : List Int} (h : l.Nodup) {i j : Nat} (hi : i < l.length) (hj : j < l.length) (e : nth l i = nth l j) : i = j := by
  have h1 := idx_nth h hi
  have h2 := idx_nth h hj
  rw [e] at h1; omega
/-! ### an obstruction stays one in a larger part -/
end Go.Proofs.Ytddhinbiahcjlaa

