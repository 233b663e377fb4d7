/-
  Lemmas for the proof: no statement of its own.
-/
import Derived.Test.YtciglfmfemidnaaWalkB
set_option linter.unusedVariables false
set_option linter.unusedSimpArgs false
open Go Go.AL Go.RowKit
namespace Go.Proofs.Ytciglfmfemidnaa
set_option maxRecDepth 20000

/-! ### PLAIN: the walk makes the orders without gaps -/
theorem pig : ∀ (n : Nat) (l : List Int), l.Nodup → (∀ x ∈ l, 0 ≤ x ∧ x < n) → l.length ≤ n
  | 0, l, _, h => by
    cases l with
    | nil => simp
    | cons a r => have := h a (by simp); omega
  | n + 1, l, hn, h => by
    have h1 := pig n (l.erase (n : Int)) (hn.erase _) (fun x hx => by
      have h2 := h x (List.mem_of_mem_erase hx)
      have h3 : x ≠ (n : Int) := fun e => by subst e; exact (hn.not_mem_erase) hx
      omega)
    have := List.le_length_erase (a := (n : Int)) (l := l)
    omega
theorem pig_mem {n : Nat} {l : List Int} (hn : l.Nodup) (h : ∀ x ∈ l, 0 ≤ x ∧ x < n) (hl : l.length = n) {c : Int} (h0 : 0 ≤ c) (h1 : c < n) : c ∈ l := by
  by_cases hc : c ∈ l
  · exact hc
  · have := pig n (c :: l) (List.nodup_cons.2 ⟨hc, hn⟩) (fun x hx => by
      rcases List.mem_cons.1 hx with rfl | hx
      · exact ⟨h0, h1⟩
      · exact h x hx)
    simp at this; omega

/-- all completions -/
def perm (n : Nat) : Nat → List Int → List (List Int)
  | 0, b => [b]
  | k + 1, b => (List.range n).flatMap fun (c : Nat) => if (c : Int) ∈ b then [] else perm n k (b ++ [(c : Int)])
structure Pre (n : Nat) (b : List Int) : Prop where
  nd : b.Nodup
  rg : ∀ x ∈ b, 0 ≤ x ∧ x < (n : Int)
theorem Pre.snoc {n : Nat} {b : List Int} (h : Pre n b) {c : Nat} (hc : c < n) (hb : (c : Int) ∉ b) : Pre n (b ++ [(c : Int)]) where
  nd := by
    rw [List.nodup_append]
    exact ⟨h.nd, by simp, fun a ha x hx => by simp at hx; subst hx; exact fun e => hb (e ▸ ha)⟩
  rg := fun x hx => by
    rcases List.mem_append.1 hx with hx | hx
    · exact h.rg x hx
    · simp at hx; subst hx; omega
theorem perm_mem {n : Nat} : ∀ (k : Nat) (b o : List Int), Pre n b → o ∈ perm n k b → Pre n o ∧ o.length = b.length + k ∧ b <+: o
  | 0, b, o, hp, h => by
    simp only [perm, List.mem_singleton] at h
    subst h
    exact ⟨hp, by simp, List.prefix_refl _⟩
  | k + 1, b, o, hp, h => by
    simp only [perm, List.mem_flatMap, List.mem_range] at h
    obtain ⟨c, hc, h⟩ := h
    split at h
    · simp at h
    · rename_i hb
      obtain ⟨h1, h2, h3⟩ := perm_mem k _ o (hp.snoc hc hb) h
      refine ⟨h1, by rw [h2]; simp; omega, (List.prefix_append b _).trans h3⟩
theorem nth_pre {b o : List Int} (h : b <+: o) {i : Nat} (hi : i < b.length) : nth o i = nth b i := by
  obtain ⟨z, rfl⟩ := h
  rw [nth_eq _ i (by simp; omega), nth_eq b i hi, List.getElem_append_left hi]

/-! runs -/
theorem runs_pre (r : List Int) {b o : List Int} (h : b <+: o) : ∀ k, k ≤ b.length → runsN r o k = runsN r b k
  | 0, _ => rfl
  | k + 1, hk => by
    simp only [runsN]
    rw [runs_pre r h k (by omega), nth_pre h (by omega)]
    rcases Nat.eq_zero_or_pos k with rfl | h0
    · simp
    · rw [nth_pre h (by omega : k - 1 < b.length)]
theorem runs_mono (r o : List Int) : ∀ d k, runsN r o k ≤ runsN r o (k + d)
  | 0, k => Nat.le_refl _
  | d + 1, k => by
    have := runs_mono r o d k
    rw [← Nat.add_assoc]
    simp only [runsN]
    omega
theorem runs_pos (r o : List Int) : ∀ k p, p < k → nth o p ∈ r → 1 ≤ runsN r o k
  | 0, p, h, _ => by omega
  | k + 1, p, h, hp => by
    simp only [runsN]
    rcases Nat.lt_succ_iff_lt_or_eq.1 h with h' | rfl
    · have := runs_pos r o k p h' hp; omega
    · by_cases h0 : p = 0
      · rw [if_pos ⟨hp, .inl h0⟩]; omega
      · by_cases h1 : nth o (p - 1) ∈ r
        · have := runs_pos r o p (p - 1) (by omega) h1; omega
        · rw [if_pos ⟨hp, .inr h1⟩]; omega
theorem runs_zero (r o : List Int) : ∀ k, (∀ j, j < k → nth o j ∉ r) → runsN r o k = 0
  | 0, _ => rfl
  | k + 1, h => by
    simp only [runsN]
    rw [runs_zero r o k (fun j hj => h j (by omega)), if_neg (fun h' => h k (by omega) h'.1)]
theorem runs_snoc (r b : List Int) (c : Int) : runsN r (b ++ [c]) (b ++ [c]).length = runsN r b b.length + if c ∈ r ∧ (b.length = 0 ∨ nth b (b.length - 1) ∉ r) then 1 else 0 := by
  have hp : b <+: b ++ [c] := List.prefix_append _ _
  rw [List.length_append, List.length_singleton, runsN, runs_pre r hp _ (Nat.le_refl _)]
  have e1 : nth (b ++ [c]) b.length = c := by rw [nth_eq _ _ (by simp)]; simp
  rw [e1]
  rcases Nat.eq_zero_or_pos b.length with h0 | h0
  · simp [h0]
  · rw [nth_pre hp (by omega : b.length - 1 < b.length)]
end Go.Proofs.Ytciglfmfemidnaa

open Go Go.AL Go.RowKit
namespace Go.Proofs.Ytciglfmfemidnaa
set_option maxRecDepth 20000

structure TabOk (n : Nat) (t : List (List Int)) : Prop where
  nd : ∀ i, i < t.length → (nth t i).Nodup
  rg : ∀ i, i < t.length → ∀ x ∈ nth t i, 0 ≤ x ∧ x < (n : Int)
structure Inv (n : Nat) (t : List (List Int)) (b left : List Int) : Prop where
  pre : Pre n b
  ll : left.length = t.length
  cnt : ∀ i, i < t.length → nth left i = (((nth t i).filter fun x => decide (x ∉ b)).length : Int)
  one : ∀ i, i < t.length → runsN (nth t i) b b.length ≤ 1
  lst : ∀ i, i < t.length → 0 < nth left i → nth left i < (nth t i).length → b.length ≠ 0 ∧ nth b (b.length - 1) ∈ nth t i
end Go.Proofs.Ytciglfmfemidnaa

open Go Go.AL Go.RowKit
namespace Go.Proofs.Ytciglfmfemidnaa
set_option maxRecDepth 20000

/-! ### no gap, in words of sublists -/
def C1 (o r : List Int) : Prop := ∀ x y z, [x, y, z].Sublist o → x ∈ r → z ∈ r → y ∈ r
theorem C1.sub {o o' r : List Int} (h : C1 o r) (hs : o'.Sublist o) : C1 o' r := fun x y z h' => h x y z (h'.trans hs)
theorem perm_all {n : Nat} : ∀ (k : Nat) (b o : List Int), Pre n o → b <+: o → o.length = b.length + k → o ∈ perm n k b
  | 0, b, o, _, hp, hl => by
    have := List.IsPrefix.eq_of_length hp (by omega)
    subst this
    simp [perm]
  | k + 1, b, o, ho, hp, hl => by
    simp only [perm, List.mem_flatMap, List.mem_range]
    obtain ⟨s, rfl⟩ := hp
    cases s with
    | nil => simp at hl
    | cons c s =>
      have hc := ho.rg c (by simp)
      have hnd := ho.nd
      rw [List.nodup_append] at hnd
      have hcb : c ∉ b := fun h => hnd.2.2 c h c (by simp) rfl
      have ec : ((c.toNat : Nat) : Int) = c := by omega
      refine ⟨c.toNat, by omega, ?_⟩
      rw [ec, if_neg hcb]
      exact perm_all k (b ++ [c]) _ ho ⟨s, by simp⟩ (by simp at hl ⊢; omega)
/-! ### an order of some columns without a gap in some rows -/
def PO (t : List (List Int)) (rows cols : List Int) : Prop := ∃ o : List Int, o.Nodup ∧ (∀ x, x ∈ o ↔ x ∈ cols) ∧ ∀ j ∈ rows, C1 o (nth t j.toNat)
theorem PO.mono {t : List (List Int)} {rows cols rows' cols' : List Int} (h : PO t rows cols) (hr : ∀ j ∈ rows', j ∈ rows) (hc : ∀ j ∈ cols', j ∈ cols) : PO t rows' cols' := by
  obtain ⟨o, h1, h2, h3⟩ := h
  refine ⟨o.filter fun x => decide (x ∈ cols'), h1.sublist List.filter_sublist, fun x => ?_, fun j hj => (h3 j (hr j hj)).sub List.filter_sublist⟩
  simp only [List.mem_filter, decide_eq_true_eq]
  exact ⟨fun h => h.2, fun h => ⟨(h2 x).2 (hc x h), h⟩⟩
theorem mem_upto {n : Nat} {x : Int} : x ∈ upto n ↔ 0 ≤ x ∧ x < n := by
  unfold upto
  simp only [List.mem_map, List.mem_range]
  constructor
  · rintro ⟨k, h, rfl⟩; omega
  · intro h; exact ⟨x.toNat, by omega, by omega⟩
theorem upto_pw (n : Nat) : (upto n).Pairwise (· < ·) := by
  unfold upto
  rw [List.pairwise_map]
  exact List.pairwise_lt_range.imp fun h => by omega
theorem upto_nth {n i : Nat} (h : i < n) : nth (upto n) i = i := by
  rw [nth_eq _ i (by rw [upto_len]; exact h)]
  simp [upto]
theorem pre_iff {n : Nat} {o : List Int} : (Pre n o ∧ o.length = n) ↔ (o.Nodup ∧ ∀ x, x ∈ o ↔ x ∈ upto n) := by
  constructor
  · rintro ⟨h, hl⟩
    refine ⟨h.nd, fun x => ?_⟩
    rw [mem_upto]
    exact ⟨h.rg x, fun hx => pig_mem h.nd h.rg hl hx.1 hx.2⟩
  · rintro ⟨h1, h2⟩
    refine ⟨⟨h1, fun x hx => mem_upto.1 ((h2 x).1 hx)⟩, ?_⟩
    have := ((List.perm_ext_iff_of_nodup h1 (pw_nodup (upto_pw n))).2 h2).length_eq
    rw [this, upto_len]
theorem C1.map {o r r' : List Int} {f : Int → Int} (h : C1 o r) (hf : ∀ x ∈ o, f x ∈ r' ↔ x ∈ r) : C1 (o.map f) r' := by
  intro x y z hs hx hz
  obtain ⟨l, hl, e⟩ := List.sublist_map_iff.1 hs
  match l, e with
  | [a, b, c], e =>
    simp only [List.map_cons, List.map_nil, List.cons.injEq, and_true] at e
    obtain ⟨rfl, rfl, rfl⟩ := e
    have hm := hl.subset
    exact (hf b (hm (by simp))).2 (h a b c hl ((hf a (hm (by simp))).1 hx) ((hf c (hm (by simp))).1 hz))
theorem nth_inj {l : List Int} (h : l.Nodup) {i j : Nat} (hi : i < l.length) (hj : j < l.length) (e : nth l i = nth l j) : i = j := by
  have h1 := idx_nth h hi
  have h2 := idx_nth h hj
  rw [e] at h1; omega
/-! ### an obstruction stays one in a larger part -/
theorem asc_mem {l : List Int} {lo hi : Int} (h : asc l lo hi = true) {x : Int} (hx : x ∈ l) : lo ≤ x ∧ x ≤ hi := by
  obtain ⟨j, hj, rfl⟩ := List.getElem_of_mem hx
  rw [← nth_eq l j hj]
  exact asc_rng h j hj
end Go.Proofs.Ytciglfmfemidnaa

open Go Go.AL Go.RowKit
namespace Go.Proofs.Ytciglfmfemidnaa
set_option maxRecDepth 20000

/-! ### orders without gaps -/
theorem runErr_zero {n : Int} {t : List (List Int)} {o : List Int} : runErr n t o = 0 ↔ validT n t = true ∧ isOrd o n = true := by
  unfold runErr
  cases validT n t <;> cases isOrd o n <;> simp
theorem isOrd_iff {o : List Int} {n : Int} : isOrd o n = true ↔ 0 ≤ n ∧ Pre n.toNat o ∧ o.length = n.toNat := by
  unfold isOrd
  rw [decide_eq_true_eq]
  constructor
  · rintro ⟨h1, h2⟩
    refine ⟨by omega, ⟨?_, fun x hx => ?_⟩, by omega⟩
    · rw [List.nodup_iff_pairwise_ne, List.pairwise_iff_getElem]
      intro i j hi hj hij e
      refine (h2 j hj).2.2 i hij ?_
      rw [nth_eq o i hi, nth_eq o j hj, e]
    · obtain ⟨i, hi, rfl⟩ := List.getElem_of_mem hx
      have := h2 i hi
      rw [nth_eq o i hi] at this
      omega
  · rintro ⟨h0, hp, hl⟩
    refine ⟨by omega, fun i hi => ?_⟩
    have := hp.rg _ (nth_mem o i hi)
    refine ⟨this.1, by omega, fun k hk e => ?_⟩
    have := nth_inj hp.nd hi (by omega) e
    omega
/-! ### runs from both sides -/
/-! ### an even number of orders -/
theorem perm_nodup {n : Nat} : ∀ (k : Nat) (b : List Int), (perm n k b).Nodup ∧ ∀ o ∈ perm n k b, b <+: o
  | 0, b => by simp [perm]
  | k + 1, b => by
    have hpre : ∀ o ∈ perm n (k + 1) b, b <+: o := fun o ho => by
      simp only [perm, List.mem_flatMap] at ho
      obtain ⟨c, _, ho⟩ := ho
      split at ho
      · simp at ho
      · exact List.IsPrefix.trans (List.prefix_append _ _) ((perm_nodup k _).2 o ho)
    refine ⟨?_, hpre⟩
    simp only [perm]
    rw [List.nodup_iff_pairwise_ne, List.pairwise_flatMap]
    refine ⟨fun c _ => ?_, ?_⟩
    · split
      · exact List.Pairwise.nil
      · exact (perm_nodup k _).1
    · refine List.Pairwise.imp ?_ List.pairwise_lt_range
      intro c d hcd x hx y hy e
      subst e
      split at hx
      · simp at hx
      · split at hy
        · simp at hy
        · have p1 := (perm_nodup k _).2 x hx
          have p2 := (perm_nodup k _).2 x hy
          have e1 := nth_pre p1 (i := b.length) (by simp)
          have e2 := nth_pre p2 (i := b.length) (by simp)
          have q1 : ∀ c : Int, nth (b ++ [c]) b.length = c := fun c => by
            rw [nth_eq _ _ (by simp)]; simp
          rw [q1] at e1 e2
          omega
/-! ### rows that say nothing; unions and intersections -/
/-! ### how many runs -/
theorem runs_eq_zero {n : Int} {o r : List Int} (h : isOrd o n = true) (hr : asc r 0 (n - 1) = true) : runsN r o o.length = 0 ↔ r.length = 0 := by
  obtain ⟨h0, hp, hl⟩ := isOrd_iff.1 h
  constructor
  · intro hz
    refine Classical.byContradiction fun hne => ?_
    have hx := asc_rng hr 0 (by omega)
    have hm : nth r 0 ∈ o := pig_mem hp.nd hp.rg hl hx.1 (by omega)
    obtain ⟨p, hpl, e⟩ := List.getElem_of_mem hm
    have := runs_pos r o o.length p hpl (by rw [nth_eq o p hpl, e]; exact nth_mem r 0 (by omega))
    omega
  · intro hz
    obtain rfl := List.length_eq_zero_iff.1 hz
    exact runs_zero _ _ _ fun j _ => by simp
end Go.Proofs.Ytciglfmfemidnaa

open Go Go.AL Go.RowKit
namespace Go.Proofs.Ytciglfmfemidnaa
set_option maxRecDepth 20000

/-! ### the search for the first order with the fewest gaps -/
def runsO (t : List (List Int)) (o : List Int) : List Int := t.map fun r => ((runsN r o o.length : Nat) : Int)
def gapO (t : List (List Int)) (o : List Int) : Int := gapN (runsO t o) t.length
theorem runsO_len (t : List (List Int)) (o : List Int) : (runsO t o).length = t.length := by simp [runsO]
theorem runsO_nth {t : List (List Int)} {o : List Int} {i : Nat} (h : i < t.length) : nth (runsO t o) i = ((runsN (nth t i) o o.length : Nat) : Int) := by
  rw [nth_eq _ i (by rw [runsO_len]; exact h), nth_eq t i h]
  simp [runsO]
theorem gapN_mono {a b : List Int} : ∀ k, (∀ i, i < k → nth a i ≤ nth b i) → gapN a k ≤ gapN b k
  | 0, _ => Int.le_refl _
  | k + 1, h => by
    have h1 := gapN_mono k fun i hi => h i (by omega)
    have h2 := h k (by omega)
    simp only [gapN]
    omega
theorem gapO_mono {t : List (List Int)} {b o : List Int} (h : b <+: o) : gapO t b ≤ gapO t o := by
  refine gapN_mono _ fun i hi => ?_
  rw [runsO_nth hi, runsO_nth hi]
  have h1 := runs_pre (nth t i) h b.length (Nat.le_refl _)
  obtain ⟨s, rfl⟩ := h
  have h2 := runs_mono (nth t i) (b ++ s) s.length b.length
  rw [List.length_append]
  omega
theorem gapN_nonneg {l : List Int} : ∀ k, 0 ≤ gapN l k
  | 0 => Int.le_refl _
  | k + 1 => by
    have := gapN_nonneg (l := l) k
    simp only [gapN]
    omega
theorem gapO_nonneg (t : List (List Int)) (o : List Int) : 0 ≤ gapO t o := gapN_nonneg _
abbrev BS := List Int × Int
def better (t : List (List Int)) (st : BS) (o : List Int) : BS := if st.2 < 0 ∨ gapO t o < st.2 then (o, gapO t o) else st
/-- the search below some columns -/
def pl (n : Nat) (t : List (List Int)) : Nat → List Int → BS → BS
  | 0, b, st => if 0 ≤ st.2 ∧ st.2 ≤ gapO t b then st else (b, gapO t b)
  | k + 1, b, st => if 0 ≤ st.2 ∧ st.2 ≤ gapO t b then st else (List.range n).foldl (fun st (c : Nat) => if (c : Int) ∈ b then st else pl n t k (b ++ [(c : Int)]) st) st
theorem better_no {t : List (List Int)} {st : BS} {b o : List Int} (h : 0 ≤ st.2 ∧ st.2 ≤ gapO t b) (hb : b <+: o) : better t st o = st := by
  have := gapO_mono (t := t) hb
  unfold better
  rw [if_neg (by omega)]
theorem foldl_id {α β : Type} {f : α → β → α} {a : α} : ∀ l : List β, (∀ b ∈ l, f a b = a) → l.foldl f a = a
  | [], _ => rfl
  | b :: l, h => by
    rw [List.foldl_cons, h b (by simp)]
    exact foldl_id l fun c hc => h c (List.mem_cons_of_mem _ hc)
theorem pl_eq {n : Nat} (t : List (List Int)) : ∀ (k : Nat) (b : List Int) (st : BS), pl n t k b st = (perm n k b).foldl (better t) st
  | 0, b, st => by
    simp only [pl, perm, List.foldl_cons, List.foldl_nil]
    unfold better
    split <;> split <;> first | rfl | omega
  | k + 1, b, st => by
    by_cases h : 0 ≤ st.2 ∧ st.2 ≤ gapO t b
    · simp only [pl]
      rw [if_pos h]
      symm
      exact foldl_id _ fun o ho => better_no h ((perm_nodup (k + 1) b).2 o ho)
    · simp only [pl, perm]
      rw [if_neg h, List.foldl_flatMap]
      congr 1
      funext st c
      split
      · rfl
      · exact pl_eq t k _ st
/-- the best of a list -/
theorem best_of (t : List (List Int)) : ∀ (L : List (List Int)) (st : BS), (0 ≤ st.2 ∨ L ≠ []) → 0 ≤ (L.foldl (better t) st).2 ∧
    ((L.foldl (better t) st = st ∧ 0 ≤ st.2) ∨ ((L.foldl (better t) st).1 ∈ L ∧ (L.foldl (better t) st).2 = gapO t (L.foldl (better t) st).1)) ∧ (0 ≤ st.2 → (L.foldl (better t) st).2 ≤ st.2) ∧ ∀ o ∈ L, (L.foldl (better t) st).2 ≤ gapO t o
  | [], st, h => by
    have h0 : 0 ≤ st.2 := h.resolve_right (by simp)
    simp [h0]
  | o :: L, st, h => by
    rw [List.foldl_cons]
    have hg := gapO_nonneg t o
    have hb0 : 0 ≤ (better t st o).2 := by unfold better; split <;> omega
    have hbo : (better t st o).2 ≤ gapO t o := by unfold better; split <;> omega
    have hbs : 0 ≤ st.2 → (better t st o).2 ≤ st.2 := fun h => by unfold better; split <;> omega
    obtain ⟨h1, h2, h3, h4⟩ := best_of t L (better t st o) (.inl hb0)
    refine ⟨h1, ?_, fun h => Int.le_trans (h3 hb0) (hbs h), fun x hx => ?_⟩
    · rcases h2 with ⟨h2, _⟩ | ⟨h2, h2'⟩
      · rw [h2]
        unfold better
        split
        · exact .inr ⟨by simp, rfl⟩
        · exact .inl ⟨rfl, by omega⟩
      · exact .inr ⟨List.mem_cons_of_mem _ h2, h2'⟩
    · rcases List.mem_cons.1 hx with rfl | hx
      · exact Int.le_trans (h3 hb0) hbo
      · exact h4 x hx
def leastV (n : Int) (t : List (List Int)) : BS := (perm n.toNat n.toNat []).foldl (better t) ([], -1)
theorem perm_ne (n : Nat) : perm n n [] ≠ [] := fun e => by
  have := perm_all n [] (upto n) ⟨pw_nodup (upto_pw n), fun x hx => by have := mem_upto.1 hx; omega⟩ List.nil_prefix (by simp [upto_len])
  rw [e] at this; simp at this
theorem gapsV_gapO {n : Int} {t : List (List Int)} {o : List Int} (h : runErr n t o = 0) : gapsV n t o = gapO t o := by
  unfold gapsV gapO
  have e : runsL n t o = runsO t o := by unfold runsL; rw [if_pos h]; rfl
  rw [e, runsO_len]
theorem perm_ord {n : Int} (h0 : 0 ≤ n) {o : List Int} : o ∈ perm n.toNat n.toNat [] ↔ isOrd o n = true := by
  rw [isOrd_iff]
  constructor
  · intro h
    obtain ⟨h1, h2, _⟩ := perm_mem _ _ o ⟨by simp, by simp⟩ h
    exact ⟨h0, h1, by simpa using h2⟩
  · rintro ⟨_, h1, h2⟩
    exact perm_all _ _ _ h1 List.nil_prefix (by simpa using h2)
theorem least_spec {n : Int} {t : List (List Int)} (h : validT n t = true) : isOrd (leastV n t).1 n = true ∧ (leastV n t).2 = gapO t (leastV n t).1 ∧ 0 ≤ (leastV n t).2 ∧ ∀ o, isOrd o n = true → (leastV n t).2 ≤ gapO t o := by
  have v := validT_of h
  obtain ⟨h1, h2, _, h4⟩ := best_of t (perm n.toNat n.toNat []) ([], -1) (.inr (perm_ne _))
  rcases h2 with ⟨_, h2⟩ | ⟨h2, h2'⟩
  · simp at h2
  · exact ⟨(perm_ord v.1).1 h2, h2', h1, fun o ho => h4 o ((perm_ord v.1).2 ho)⟩
end Go.Proofs.Ytciglfmfemidnaa

