/-
  Lemmas for the proof: no statement of its own.
-/
import Derived.Test.YtjplkpppjlgheaaWalkB
set_option linter.unusedVariables false
set_option linter.unusedSimpArgs false
open Go Go.AL Go.RowKit
namespace Go.Proofs.Ytjplkpppjlgheaa
set_option maxRecDepth 20000

/-! ### PLAIN: the walk makes the orders without gaps -/
theorem pig : ∀ (n : Nat) (l : List Int), l.Nodup → (∀ x ∈ l, 0 ≤ x ∧ x < n) → l.length ≤ n
  | 0, l, _, h => by
    cases l with
    | nil => simp
    | cons a r => have := h a (by simp); omega
  | n + 1, l, hn, h => by
    have h1 := pig n (l.erase (n : Int)) (hn.erase _) (fun x hx => by
      have h2 := h x (List.mem_of_mem_erase hx)
      have h3 : x ≠ (n : Int) := fun e => by subst e; exact (hn.not_mem_erase) hx
      omega)
    have := List.le_length_erase (a := (n : Int)) (l := l)
    omega
theorem pig_mem {n : Nat} {l : List Int} (hn : l.Nodup) (h : ∀ x ∈ l, 0 ≤ x ∧ x < n) (hl : l.length = n) {c : Int} (h0 : 0 ≤ c) (h1 : c < n) : c ∈ l := by
  by_cases hc : c ∈ l
  · exact hc
  · have := pig n (c :: l) (List.nodup_cons.2 ⟨hc, hn⟩) (fun x hx => by
      rcases List.mem_cons.1 hx with rfl | hx
      · exact ⟨h0, h1⟩
      · exact h x hx)
    simp at this; omega

/-- all completions -/
def perm (n : Nat) : Nat → List Int → List (List Int)
  | 0, b => [b]
  | k + 1, b => (List.range n).flatMap fun (c : Nat) => if (c : Int) ∈ b then [] else perm n k (b ++ [(c : Int)])
theorem fm_filter {f : List Int → List (List Int)} (b : List Int) : ∀ l : List Nat, ((l.filter fun (v : Nat) => decide ((v : Int) ∉ b)).map fun (v : Nat) => b ++ [(v : Int)]).flatMap f = l.flatMap fun (c : Nat) => if (c : Int) ∈ b then [] else f (b ++ [(c : Int)])
  | [] => rfl
  | v :: l => by
    have ih := fm_filter (f := f) b l
    by_cases h : (v : Int) ∈ b
    · rw [List.filter_cons_of_neg (by simpa using h), List.flatMap_cons, if_pos h, List.nil_append]; exact ih
    · rw [List.filter_cons_of_pos (by simpa using h), List.map_cons, List.flatMap_cons, List.flatMap_cons, if_neg h, ih]
theorem perm_succ (n k : Nat) (b : List Int) : perm n (k + 1) b = (extN n b).flatMap (perm n k) := (fm_filter b (List.range n)).symm
theorem lev_perm (n : Nat) : ∀ k j, (lev n j).flatMap (perm n k) = lev n (j + k)
  | 0, j => by
    have : (perm n 0) = fun b => [b] := rfl
    rw [this]
    simp
  | k + 1, j => by
    have e : perm n (k + 1) = fun b => (extN n b).flatMap (perm n k) := funext fun b => perm_succ n k b
    rw [e, ← List.flatMap_assoc]
    have := lev_perm n k (j + 1)
    simp only [lev] at this
    rw [this]; congr 1; omega
theorem lev_eq (n k : Nat) : lev n k = perm n k [] := by
  have := lev_perm n k 0
  simpa [lev] using this.symm
structure Pre (n : Nat) (b : List Int) : Prop where
  nd : b.Nodup
  rg : ∀ x ∈ b, 0 ≤ x ∧ x < (n : Int)
theorem Pre.snoc {n : Nat} {b : List Int} (h : Pre n b) {c : Nat} (hc : c < n) (hb : (c : Int) ∉ b) : Pre n (b ++ [(c : Int)]) where
  nd := by
    rw [List.nodup_append]
    exact ⟨h.nd, by simp, fun a ha x hx => by simp at hx; subst hx; exact fun e => hb (e ▸ ha)⟩
  rg := fun x hx => by
    rcases List.mem_append.1 hx with hx | hx
    · exact h.rg x hx
    · simp at hx; subst hx; omega
theorem perm_mem {n : Nat} : ∀ (k : Nat) (b o : List Int), Pre n b → o ∈ perm n k b → Pre n o ∧ o.length = b.length + k ∧ b <+: o
  | 0, b, o, hp, h => by
    simp only [perm, List.mem_singleton] at h
    subst h
    exact ⟨hp, by simp, List.prefix_refl _⟩
  | k + 1, b, o, hp, h => by
    simp only [perm, List.mem_flatMap, List.mem_range] at h
    obtain ⟨c, hc, h⟩ := h
    split at h
    · simp at h
    · rename_i hb
      obtain ⟨h1, h2, h3⟩ := perm_mem k _ o (hp.snoc hc hb) h
      refine ⟨h1, by rw [h2]; simp; omega, (List.prefix_append b _).trans h3⟩
theorem nth_pre {b o : List Int} (h : b <+: o) {i : Nat} (hi : i < b.length) : nth o i = nth b i := by
  obtain ⟨z, rfl⟩ := h
  rw [nth_eq _ i (by simp; omega), nth_eq b i hi, List.getElem_append_left hi]

/-! runs -/
theorem runs_pre (r : List Int) {b o : List Int} (h : b <+: o) : ∀ k, k ≤ b.length → runsN r o k = runsN r b k
  | 0, _ => rfl
  | k + 1, hk => by
    simp only [runsN]
    rw [runs_pre r h k (by omega), nth_pre h (by omega)]
    rcases Nat.eq_zero_or_pos k with rfl | h0
    · simp
    · rw [nth_pre h (by omega : k - 1 < b.length)]
theorem runs_mono (r o : List Int) : ∀ d k, runsN r o k ≤ runsN r o (k + d)
  | 0, k => Nat.le_refl _
  | d + 1, k => by
    have := runs_mono r o d k
    rw [← Nat.add_assoc]
    simp only [runsN]
    omega
theorem runs_pos (r o : List Int) : ∀ k p, p < k → nth o p ∈ r → 1 ≤ runsN r o k
  | 0, p, h, _ => by omega
  | k + 1, p, h, hp => by
    simp only [runsN]
    rcases Nat.lt_succ_iff_lt_or_eq.1 h with h' | rfl
    · have := runs_pos r o k p h' hp; omega
    · by_cases h0 : p = 0
      · rw [if_pos ⟨hp, .inl h0⟩]; omega
      · by_cases h1 : nth o (p - 1) ∈ r
        · have := runs_pos r o p (p - 1) (by omega) h1; omega
        · rw [if_pos ⟨hp, .inr h1⟩]; omega
theorem runs_zero (r o : List Int) : ∀ k, (∀ j, j < k → nth o j ∉ r) → runsN r o k = 0
  | 0, _ => rfl
  | k + 1, h => by
    simp only [runsN]
    rw [runs_zero r o k (fun j hj => h j (by omega)), if_neg (fun h' => h k (by omega) h'.1)]
/-- a gap: two runs -/
theorem runs_gap (r o : List Int) (p q : Nat) (hp : nth o p ∈ r) (hpq : p < q) (hq : nth o q ∉ r) : ∀ d, nth o (q + 1 + d) ∈ r → 2 ≤ runsN r o (q + 1 + d + 1)
  | 0, hs => by
    have h1 := runs_pos r o (q + 1) p (by omega) hp
    simp only [runsN, Nat.add_zero] at h1 ⊢
    have : ¬ (nth o q ∈ r ∧ (q = 0 ∨ nth o (q - 1) ∉ r)) := fun h => hq h.1
    rw [if_neg this] at h1 ⊢
    have h2 : nth o (q + 1) ∈ r ∧ (q + 1 = 0 ∨ nth o (q + 1 - 1) ∉ r) := ⟨by simpa using hs, .inr (by simpa using hq)⟩
    rw [if_pos h2]; omega
  | d + 1, hs => by
    by_cases h : nth o (q + 1 + d) ∈ r
    · have := runs_gap r o p q hp hpq hq d h
      have h2 := runs_mono r o 1 (q + 1 + d + 1)
      rw [show q + 1 + (d + 1) + 1 = q + 1 + d + 1 + 1 by omega]
      omega
    · have h1 := runs_pos r o (q + 1 + d + 1) p (by omega) hp
      rw [show q + 1 + (d + 1) + 1 = (q + 1 + d + 1) + 1 by omega, runsN]
      rw [show q + 1 + (d + 1) = q + 1 + d + 1 by omega] at hs
      rw [if_pos ⟨hs, .inr (by simpa using h)⟩]; omega
theorem runs_snoc (r b : List Int) (c : Int) : runsN r (b ++ [c]) (b ++ [c]).length = runsN r b b.length + if c ∈ r ∧ (b.length = 0 ∨ nth b (b.length - 1) ∉ r) then 1 else 0 := by
  have hp : b <+: b ++ [c] := List.prefix_append _ _
  rw [List.length_append, List.length_singleton, runsN, runs_pre r hp _ (Nat.le_refl _)]
  have e1 : nth (b ++ [c]) b.length = c := by rw [nth_eq _ _ (by simp)]; simp
  rw [e1]
  rcases Nat.eq_zero_or_pos b.length with h0 | h0
  · simp [h0]
  · rw [nth_pre hp (by omega : b.length - 1 < b.length)]
end Go.Proofs.Ytjplkpppjlgheaa

open Go Go.AL Go.RowKit
namespace Go.Proofs.Ytjplkpppjlgheaa
set_option maxRecDepth 20000

def okO (t : List (List Int)) (o : List Int) : Bool := decide (∀ i, i < t.length → runsN (nth t i) o o.length ≤ 1)
structure TabOk (n : Nat) (t : List (List Int)) : Prop where
  nd : ∀ i, i < t.length → (nth t i).Nodup
  rg : ∀ i, i < t.length → ∀ x ∈ nth t i, 0 ≤ x ∧ x < (n : Int)
structure Inv (n : Nat) (t : List (List Int)) (b left : List Int) : Prop where
  pre : Pre n b
  ll : left.length = t.length
  cnt : ∀ i, i < t.length → nth left i = (((nth t i).filter fun x => decide (x ∉ b)).length : Int)
  one : ∀ i, i < t.length → runsN (nth t i) b b.length ≤ 1
  lst : ∀ i, i < t.length → 0 < nth left i → nth left i < (nth t i).length → b.length ≠ 0 ∧ nth b (b.length - 1) ∈ nth t i
theorem cnt_in {c : Int} {b : List Int} (hb : c ∉ b) : ∀ r : List Int, r.Nodup → c ∈ r → (r.filter fun x => decide (x ∉ b ++ [c])).length + 1 = (r.filter fun x => decide (x ∉ b)).length
  | [], _, h => by simp at h
  | x :: r, hn, h => by
    rw [List.nodup_cons] at hn
    by_cases e : x = c
    · subst e
      have e2 : (r.filter fun y => decide (y ∉ b ++ [x])) = r.filter fun y => decide (y ∉ b) := List.filter_congr fun y hy => by
        have : y ≠ x := fun e => hn.1 (e ▸ hy)
        simp [this]
      rw [List.filter_cons_of_neg (by simp), e2, List.filter_cons_of_pos (by simpa using hb)]
      simp
    · have hr : c ∈ r := by
        rcases List.mem_cons.1 h with e' | h
        · exact absurd e'.symm e
        · exact h
      have ih := cnt_in hb r hn.2 hr
      by_cases hx : x ∈ b
      · rw [List.filter_cons_of_neg (by simp [hx]), List.filter_cons_of_neg (by simpa using hx)]; exact ih
      · rw [List.filter_cons_of_pos (by simp [hx, e]), List.filter_cons_of_pos (by simpa using hx), List.length_cons, List.length_cons]; omega
theorem cnt_out {c : Int} {b r : List Int} (h : c ∉ r) : (r.filter fun x => decide (x ∉ b ++ [c])) = r.filter fun x => decide (x ∉ b) := List.filter_congr fun y hy => by
  have : y ≠ c := fun e => h (e ▸ hy)
  simp [this]
theorem cnt_lt {b r : List Int} (h : (r.filter fun x => decide (x ∉ b)).length < r.length) : ∃ x ∈ r, x ∈ b := by
  refine Classical.byContradiction fun hn => ?_
  have : (r.filter fun x => decide (x ∉ b)) = r := List.filter_eq_self.2 fun x hx => by
    have : x ∉ b := fun hb => hn ⟨x, hx, hb⟩
    simpa using this
  rw [this] at h; omega
theorem cnt_pos {b r : List Int} (h : 0 < (r.filter fun x => decide (x ∉ b)).length) : ∃ x ∈ r, x ∉ b := by
  obtain ⟨x, hx⟩ := List.exists_mem_of_length_pos h
  rw [List.mem_filter] at hx
  exact ⟨x, hx.1, by simpa using hx.2⟩
theorem cnt_le (b r : List Int) : (r.filter fun x => decide (x ∉ b)).length ≤ r.length := List.length_filter_le _ _
theorem fm_congr {f g : Nat → List (List Int)} : ∀ {l : List Nat}, (∀ c ∈ l, f c = g c) → l.flatMap f = l.flatMap g
  | [], _ => rfl
  | c :: l, h => by rw [List.flatMap_cons, List.flatMap_cons, h c (by simp), fm_congr fun d hd => h d (List.mem_cons_of_mem _ hd)]
theorem fits_iff {t : List (List Int)} {left : List Int} {c : Int} : fitsB t left c t.length = true ↔ ∀ i, i < t.length → c ∉ nth t i → ¬ (0 < nth left i ∧ nth left i < (nth t i).length) := by
  unfold fitsB; rw [decide_eq_true_eq]
theorem inv_snoc {n : Nat} {t : List (List Int)} {b left : List Int} (hT : TabOk n t) (h : Inv n t b left) {c : Nat} (hc : c < n) (hb : (c : Int) ∉ b) (hf : fitsB t left c t.length = true) : Inv n t (b ++ [(c : Int)]) (nextL t left c t.length) := by
  rw [fits_iff] at hf
  have hll := h.ll
  have hnx : ∀ i, i < t.length → nth (nextL t left c t.length) i = if (c : Int) ∈ nth t i then nth left i - 1 else nth left i := fun i hi => by
    rw [nextL_nth t left c _ i (by omega)]; simp [hi]
  have hlast : nth (b ++ [(c : Int)]) ((b ++ [(c : Int)]).length - 1) = c := by
    rw [nth_eq _ _ (by simp)]; simp
  refine ⟨h.pre.snoc hc hb, by rw [nextL_len]; exact hll, fun i hi => ?_, fun i hi => ?_, fun i hi h0 h1 => ?_⟩
  · rw [hnx i hi, h.cnt i hi]
    by_cases hr : (c : Int) ∈ nth t i
    · have := cnt_in hb _ (hT.nd i hi) hr
      rw [if_pos hr]; omega
    · rw [if_neg hr, cnt_out hr]
  · rw [runs_snoc]
    have h1 := h.one i hi
    by_cases hs : (c : Int) ∈ nth t i ∧ (b.length = 0 ∨ nth b (b.length - 1) ∉ nth t i)
    · rw [if_pos hs]
      have hcn := h.cnt i hi
      have hle := cnt_le b (nth t i)
      have hin := cnt_in hb _ (hT.nd i hi) hs.1
      have : runsN (nth t i) b b.length = 0 := by
        refine runs_zero _ _ _ fun j hj hm => ?_
        have hlt : ((nth t i).filter fun x => decide (x ∉ b)).length < (nth t i).length := by
          rcases Nat.lt_or_eq_of_le hle with h' | h'
          · exact h'
          · exfalso
            have := List.length_filter_eq_length_iff.1 h' _ hm
            simp at this
            exact this (nth_mem b j hj)
        obtain ⟨q1, q2⟩ := h.lst i hi (by omega) (by omega)
        rcases hs.2 with h' | h'
        · exact q1 h'
        · exact h' q2
      omega
    · rw [if_neg hs]; omega
  · rw [hlast]
    refine ⟨by simp, ?_⟩
    by_cases hr : (c : Int) ∈ nth t i
    · exact hr
    · rw [hnx i hi, if_neg hr] at h0 h1
      exact absurd ⟨h0, h1⟩ (hf i hi hr)
theorem nofit {n k : Nat} {t : List (List Int)} {b left : List Int} (hT : TabOk n t) (h : Inv n t b left) {c : Nat} (hc : c < n) (hb : (c : Int) ∉ b) (hk : b.length + (k + 1) = n) (hf : fitsB t left c t.length = false) : (perm n k (b ++ [(c : Int)])).filter (okO t) = [] := by
  rw [List.filter_eq_nil_iff]
  intro o ho hok
  obtain ⟨hp, hl, hpr⟩ := perm_mem k _ o (h.pre.snoc hc hb) ho
  have hf' : ¬ ∀ i, i < t.length → (c : Int) ∉ nth t i → ¬ (0 < nth left i ∧ nth left i < (nth t i).length) := fun h' => by
    rw [fits_iff.2 h'] at hf; cases hf
  refine hf' fun i hi hcr ⟨h0, h1⟩ => ?_
  have hcn := h.cnt i hi
  obtain ⟨x, hx, hxb⟩ := cnt_lt (b := b) (r := nth t i) (by omega)
  obtain ⟨y, hy, hyb⟩ := cnt_pos (b := b) (r := nth t i) (by omega)
  have hol : o.length = n := by rw [hl]; simp; omega
  have hyr := hT.rg i hi y hy
  have hyo := pig_mem hp.nd hp.rg hol hyr.1 hyr.2
  obtain ⟨p, hpl, rfl⟩ := List.getElem_of_mem hxb
  obtain ⟨s, hsl, rfl⟩ := List.getElem_of_mem hyo
  have ep : nth o p = b[p] := by rw [nth_pre hpr (by simp; omega), nth_eq _ _ (by simp; omega), List.getElem_append_left hpl]
  have eq : nth o b.length = c := by rw [nth_pre hpr (by simp), nth_eq _ _ (by simp)]; simp
  have es : nth o s = o[s] := nth_eq o s hsl
  have hs1 : b.length < s := by
    rcases Nat.lt_trichotomy s b.length with h' | h' | h'
    · exfalso
      have : o[s] = b[s] := by rw [← nth_eq o s hsl, nth_pre hpr (by simp; omega), nth_eq _ _ (by simp; omega), List.getElem_append_left h']
      rw [this] at hyb
      exact hyb (by simp)
    · exfalso
      subst h'
      rw [← es, eq] at hy
      exact hcr hy
    · exact h'
  have hg := runs_gap (nth t i) o p b.length (by rw [ep]; exact hx) hpl (by rw [eq]; exact hcr) (s - b.length - 1) (by rw [show b.length + 1 + (s - b.length - 1) = s by omega, es]; exact hy)
  rw [show b.length + 1 + (s - b.length - 1) + 1 = s + 1 by omega] at hg
  have hm := runs_mono (nth t i) o (o.length - (s + 1)) (s + 1)
  rw [show s + 1 + (o.length - (s + 1)) = o.length by omega] at hm
  have := of_decide_eq_true hok i hi
  omega
theorem walks_eq {n : Nat} {t : List (List Int)} (hT : TabOk n t) : ∀ (k : Nat) (b left : List Int), Inv n t b left → b.length + k = n → walks n t k b left = (perm n k b).filter (okO t)
  | 0, b, left, h, hk => by
    simp only [walks, perm]
    rw [List.filter_cons_of_pos]
    · rfl
    · exact decide_eq_true h.one
  | k + 1, b, left, h, hk => by
    rw [walks_succ]
    simp only [perm]
    rw [List.filter_flatMap]
    refine fm_congr fun c hc => ?_
    have hc := List.mem_range.1 hc
    unfold br
    by_cases hb : (c : Int) ∈ b
    · rw [if_pos (.inl hb), if_pos hb]; rfl
    · rw [if_neg hb]
      cases hf : fitsB t left c t.length with
      | false => rw [if_pos (.inr rfl), nofit hT h hc hb hk hf]
      | true =>
        rw [if_neg (by simp [hb])]
        exact walks_eq hT k _ _ (inv_snoc hT h hc hb hf) (by simp; omega)
theorem tabOk {n : Int} {t : List (List Int)} (h : validT n t = true) : TabOk n.toNat t := by
  obtain ⟨h1, h2, h3, h4⟩ := validT_of h
  refine ⟨fun i hi => pw_nodup (asc_pw (h4 i hi)), fun i hi x hx => ?_⟩
  obtain ⟨j, hj, rfl⟩ := List.getElem_of_mem hx
  have := asc_rng (h4 i hi) j hj
  rw [nth_eq _ j hj] at this
  omega
theorem inv_nil {n : Nat} {t : List (List Int)} : Inv n t [] (t.map fun r => (r.length : Int)) := by
  have hn : ∀ i, i < t.length → nth (t.map fun r => (r.length : Int)) i = ((nth t i).length : Int) := fun i hi => by
    rw [nth_eq _ i (by simpa using hi), nth_eq _ i hi]; simp
  refine ⟨⟨by simp, by simp⟩, by simp, fun i hi => ?_, fun i hi => by simp [runsN], fun i hi _ h1 => ?_⟩
  · rw [hn i hi]
    have : ((nth t i).filter fun x => decide (x ∉ ([] : List Int))) = nth t i := List.filter_eq_self.2 (by simp)
    rw [this]
  · rw [hn i hi] at h1; omega
theorem gapN_zero {l : List Int} (h : ∀ x ∈ l, 0 ≤ x) : ∀ k, k ≤ l.length → (0 ≤ gapN l k) ∧ (gapN l k = 0 ↔ ∀ j, j < k → nth l j ≤ 1)
  | 0, _ => by simp [gapN]
  | k + 1, hk => by
    obtain ⟨h1, h2⟩ := gapN_zero h k (by omega)
    have h3 := h _ (nth_mem l k (by omega))
    simp only [gapN]
    refine ⟨by omega, ?_⟩
    constructor
    · intro e
      have e1 : gapN l k = 0 := by omega
      exact step_lt (h2.1 e1) (by omega)
    · intro e
      have := h2.2 fun j hj => e j (by omega)
      have := e k (by omega)
      omega
theorem gapless_eq {n : Int} {t : List (List Int)} (h : validT n t = true) {o : List Int} (ho : o ∈ perm n.toNat n.toNat []) : gapless n t o = okO t o := by
  obtain ⟨h1, h2, h3, h4⟩ := validT_of h
  obtain ⟨hp, hl, _⟩ := perm_mem _ _ o ⟨by simp, by simp⟩ ho
  have hord : isOrd o n = true := by
    refine decide_eq_true ⟨by rw [hl]; simp; omega, fun i hi => ?_⟩
    have := hp.rg _ (nth_mem o i hi)
    refine ⟨this.1, by omega, fun k hk e => ?_⟩
    rw [nth_eq o i hi, nth_eq o k (by omega)] at e
    exact (List.pairwise_iff_getElem.1 hp.nd k i (by omega) hi hk) e.symm
  have herr : runErr n t o = 0 := by unfold runErr; rw [h, hord]; rfl
  have hL : runsL n t o = t.map fun r => ((runsN r o o.length : Nat) : Int) := by unfold runsL; rw [if_pos herr]
  unfold gapless gapsV
  rw [herr, Bool.eq_iff_iff]
  simp only [decide_true, Bool.true_and, decide_eq_true_eq]
  have hg := gapN_zero (l := runsL n t o) (fun x hx => by
    rw [hL] at hx
    simp at hx
    obtain ⟨r, _, rfl⟩ := hx
    omega) (runsL n t o).length (Nat.le_refl _)
  rw [hg.2]
  unfold okO
  rw [decide_eq_true_eq]
  have hlen : (runsL n t o).length = t.length := by rw [hL]; simp
  rw [hlen]
  refine forall_congr' fun i => forall_congr' fun hi => ?_
  have : nth (runsL n t o) i = ((runsN (nth t i) o o.length : Nat) : Int) := by
    rw [nth_eq _ i (by omega), nth_eq t i hi]; simp [hL]
  rw [this]; omega
theorem ords_eq {n : Int} {t : List (List Int)} (h : validT n t = true) : ords n t = allR n t := by
  have h0 := validT_of h
  unfold ords allR
  rw [if_pos h, walks_eq (tabOk h) _ _ _ inv_nil (by simp), lev_eq]
  exact List.filter_congr fun o ho => (gapless_eq h ho).symm
theorem poss_eq : poss = possR := by
  funext n t
  unfold poss possR
  cases h : validT n t with
  | false => rfl
  | true => rw [ords_eq h]
end Go.Proofs.Ytjplkpppjlgheaa

open Go Go.AL Go.RowKit
namespace Go.Proofs.Ytjplkpppjlgheaa
set_option maxRecDepth 20000

/-! ### no gap, in words of sublists -/
def C1 (o r : List Int) : Prop := ∀ x y z, [x, y, z].Sublist o → x ∈ r → z ∈ r → y ∈ r
theorem C1.sub {o o' r : List Int} (h : C1 o r) (hs : o'.Sublist o) : C1 o' r := fun x y z h' => h x y z (h'.trans hs)
theorem sub2 {b : List Int} {i j : Nat} (hij : i < j) (hj : j < b.length) : [nth b i, nth b j].Sublist b := by
  refine List.cons_sublist_iff.2 ⟨b.take j, b.drop j, (List.take_append_drop j b).symm, ?_, List.singleton_sublist.2 ?_⟩
  · rw [nth_eq b i (by omega)]
    exact List.mem_take_iff_getElem.2 ⟨i, by omega, rfl⟩
  · rw [nth_eq b j hj]
    exact List.mem_drop_iff_getElem.2 ⟨0, by omega, rfl⟩
theorem runs_C1 {r o : List Int} (h : runsN r o o.length ≤ 1) : C1 o r := by
  intro x y z hs hx hz
  obtain ⟨a, b, rfl, ha, hs⟩ := List.cons_sublist_iff.1 hs
  obtain ⟨b1, b2, rfl, hb, hs⟩ := List.cons_sublist_iff.1 hs
  have hz' := List.singleton_sublist.1 hs
  obtain ⟨p, hp, rfl⟩ := List.getElem_of_mem ha
  obtain ⟨q, hq, rfl⟩ := List.getElem_of_mem hb
  obtain ⟨s, hs, rfl⟩ := List.getElem_of_mem hz'
  refine Classical.byContradiction fun hy => ?_
  have hl : (a ++ (b1 ++ b2)).length = a.length + (b1.length + b2.length) := by simp
  have e1 : nth (a ++ (b1 ++ b2)) p = a[p] := by rw [nth_eq _ _ (by omega), List.getElem_append_left hp]
  have e2 : nth (a ++ (b1 ++ b2)) (a.length + q) = b1[q] := by
    rw [nth_eq _ _ (by omega), List.getElem_append_right (by omega), List.getElem_append_left (by omega)]; simp
  have e3 : nth (a ++ (b1 ++ b2)) (a.length + b1.length + s) = b2[s] := by
    rw [nth_eq _ _ (by omega), List.getElem_append_right (by omega), List.getElem_append_right (by omega)]
    congr 1; omega
  have hg := runs_gap r (a ++ (b1 ++ b2)) p (a.length + q) (by rw [e1]; exact hx) (by omega) (by rw [e2]; exact hy) (b1.length - q - 1 + s) (by rw [show a.length + q + 1 + (b1.length - q - 1 + s) = a.length + b1.length + s by omega, e3]; exact hz)
  have hm := runs_mono r (a ++ (b1 ++ b2)) ((a ++ (b1 ++ b2)).length - (a.length + b1.length + s + 1)) (a.length + q + 1 + (b1.length - q - 1 + s) + 1)
  rw [show a.length + q + 1 + (b1.length - q - 1 + s) + 1 + ((a ++ (b1 ++ b2)).length - (a.length + b1.length + s + 1)) = (a ++ (b1 ++ b2)).length by omega] at hm
  omega
theorem C1_runs {r : List Int} : ∀ (n : Nat) (o : List Int), o.length = n → C1 o r → runsN r o o.length ≤ 1
  | 0, o, hl, _ => by
    obtain rfl := List.length_eq_zero_iff.1 hl
    simp [runsN]
  | n + 1, o, hl, h => by
    have hne : o ≠ [] := fun e => by subst e; simp at hl
    obtain ⟨b, c, rfl⟩ : ∃ b c, o = b ++ [c] := ⟨o.dropLast, o.getLast hne, (List.dropLast_concat_getLast hne).symm⟩
    have ih := C1_runs n b (by simpa using hl) (h.sub (List.sublist_append_left _ _))
    rw [runs_snoc]
    split
    · rename_i hc
      have hz : runsN r b b.length = 0 := by
        rcases hc.2 with h0 | h0
        · rw [h0]; rfl
        · refine runs_zero r b _ fun j hj hm => ?_
          by_cases e : j = b.length - 1
          · exact h0 (e ▸ hm)
          · have h2 := sub2 (b := b) (i := j) (j := b.length - 1) (by omega) (by omega)
            exact h0 (h _ _ _ (List.Sublist.append h2 (List.Sublist.refl [c])) hm hc.1)
      omega
    · omega
theorem runs_iff {r o : List Int} : runsN r o o.length ≤ 1 ↔ C1 o r := ⟨runs_C1, C1_runs _ o rfl⟩
theorem perm_all {n : Nat} : ∀ (k : Nat) (b o : List Int), Pre n o → b <+: o → o.length = b.length + k → o ∈ perm n k b
  | 0, b, o, _, hp, hl => by
    have := List.IsPrefix.eq_of_length hp (by omega)
    subst this
    simp [perm]
  | k + 1, b, o, ho, hp, hl => by
    simp only [perm, List.mem_flatMap, List.mem_range]
    obtain ⟨s, rfl⟩ := hp
    cases s with
    | nil => simp at hl
    | cons c s =>
      have hc := ho.rg c (by simp)
      have hnd := ho.nd
      rw [List.nodup_append] at hnd
      have hcb : c ∉ b := fun h => hnd.2.2 c h c (by simp) rfl
      have ec : ((c.toNat : Nat) : Int) = c := by omega
      refine ⟨c.toNat, by omega, ?_⟩
      rw [ec, if_neg hcb]
      exact perm_all k (b ++ [c]) _ ho ⟨s, by simp⟩ (by simp at hl ⊢; omega)
/-! ### an order of some columns without a gap in some rows -/
def PO (t : List (List Int)) (rows cols : List Int) : Prop := ∃ o : List Int, o.Nodup ∧ (∀ x, x ∈ o ↔ x ∈ cols) ∧ ∀ j ∈ rows, C1 o (nth t j.toNat)
theorem PO.mono {t : List (List Int)} {rows cols rows' cols' : List Int} (h : PO t rows cols) (hr : ∀ j ∈ rows', j ∈ rows) (hc : ∀ j ∈ cols', j ∈ cols) : PO t rows' cols' := by
  obtain ⟨o, h1, h2, h3⟩ := h
  refine ⟨o.filter fun x => decide (x ∈ cols'), h1.sublist List.filter_sublist, fun x => ?_, fun j hj => (h3 j (hr j hj)).sub List.filter_sublist⟩
  simp only [List.mem_filter, decide_eq_true_eq]
  exact ⟨fun h => h.2, fun h => ⟨(h2 x).2 (hc x h), h⟩⟩
theorem mem_upto {n : Nat} {x : Int} : x ∈ upto n ↔ 0 ≤ x ∧ x < n := by
  unfold upto
  simp only [List.mem_map, List.mem_range]
  constructor
  · rintro ⟨k, h, rfl⟩; omega
  · intro h; exact ⟨x.toNat, by omega, by omega⟩
theorem upto_pw (n : Nat) : (upto n).Pairwise (· < ·) := by
  unfold upto
  rw [List.pairwise_map]
  exact List.pairwise_lt_range.imp fun h => by omega
theorem upto_nth {n i : Nat} (h : i < n) : nth (upto n) i = i := by
  rw [nth_eq _ i (by rw [upto_len]; exact h)]
  simp [upto]
theorem pre_iff {n : Nat} {o : List Int} : (Pre n o ∧ o.length = n) ↔ (o.Nodup ∧ ∀ x, x ∈ o ↔ x ∈ upto n) := by
  constructor
  · rintro ⟨h, hl⟩
    refine ⟨h.nd, fun x => ?_⟩
    rw [mem_upto]
    exact ⟨h.rg x, fun hx => pig_mem h.nd h.rg hl hx.1 hx.2⟩
  · rintro ⟨h1, h2⟩
    refine ⟨⟨h1, fun x hx => mem_upto.1 ((h2 x).1 hx)⟩, ?_⟩
    have := ((List.perm_ext_iff_of_nodup h1 (pw_nodup (upto_pw n))).2 h2).length_eq
    rw [this, upto_len]
theorem possR_PO {n : Int} {t : List (List Int)} (h : validT n t = true) : possR n t = true ↔ PO t (upto t.length) (upto n.toNat) := by
  have hok : ∀ o : List Int, okO t o = true ↔ ∀ j ∈ upto t.length, C1 o (nth t j.toNat) := fun o => by
    unfold okO
    rw [decide_eq_true_eq]
    constructor
    · intro hh j hj
      have hj := mem_upto.1 hj
      exact runs_iff.1 (hh j.toNat (by omega))
    · intro hh i hi
      have := hh i (mem_upto.2 (by omega))
      exact runs_iff.2 (by simpa using this)
  unfold possR
  rw [h, Bool.true_and, Bool.not_eq_true', List.isEmpty_eq_false_iff_exists_mem]
  unfold allR
  rw [lev_eq]
  constructor
  · rintro ⟨o, ho⟩
    rw [List.mem_filter] at ho
    obtain ⟨h1, h2⟩ := ho
    have h2 : okO t o = true := (gapless_eq h h1) ▸ h2
    obtain ⟨hp, hl, _⟩ := perm_mem _ _ o ⟨by simp, by simp⟩ h1
    have := pre_iff.1 ⟨hp, by simpa using hl⟩
    exact ⟨o, this.1, this.2, (hok o).1 h2⟩
  · rintro ⟨o, h1, h2, h3⟩
    obtain ⟨hp, hl⟩ := pre_iff.2 ⟨h1, h2⟩
    have hm : o ∈ perm n.toNat n.toNat [] := perm_all _ _ _ hp List.nil_prefix (by simpa using hl)
    exact ⟨o, List.mem_filter.2 ⟨hm, by rw [gapless_eq h hm]; exact (hok o).2 h3⟩⟩
theorem C1.map {o r r' : List Int} {f : Int → Int} (h : C1 o r) (hf : ∀ x ∈ o, f x ∈ r' ↔ x ∈ r) : C1 (o.map f) r' := by
  intro x y z hs hx hz
  obtain ⟨l, hl, e⟩ := List.sublist_map_iff.1 hs
  match l, e with
  | [a, b, c], e =>
    simp only [List.map_cons, List.map_nil, List.cons.injEq, and_true] at e
    obtain ⟨rfl, rfl, rfl⟩ := e
    have hm := hl.subset
    exact (hf b (hm (by simp))).2 (h a b c hl ((hf a (hm (by simp))).1 hx) ((hf c (hm (by simp))).1 hz))
theorem mem_cutN {r cols : List Int} {x : Int} : x ∈ cutN r cols cols.length ↔ 0 ≤ x ∧ x < cols.length ∧ nth cols x.toNat ∈ r := by
  unfold cutN
  simp only [List.mem_map, List.mem_filter, List.mem_range, decide_eq_true_eq]
  constructor
  · rintro ⟨k, ⟨h1, h2⟩, rfl⟩
    exact ⟨by omega, by omega, by simpa using h2⟩
  · rintro ⟨h1, h2, h3⟩
    exact ⟨x.toNat, ⟨by omega, h3⟩, by omega⟩
theorem nodup_map {o : List Int} {f : Int → Int} (h : o.Nodup) (hf : ∀ a ∈ o, ∀ b ∈ o, f a = f b → a = b) : (o.map f).Nodup := by
  refine List.pairwise_map.2 (List.Pairwise.imp_of_mem ?_ h)
  intro a b ha hb hne e
  exact hne (hf a ha b hb e)
theorem cutT_nth {t : List (List Int)} {rows cols : List Int} {i : Nat} (h : i < rows.length) : nth (cutT t rows cols) i = cutN (nth t (nth rows i).toNat) cols cols.length := by
  rw [nth_eq _ i (by simp [cutT]; exact h), nth_eq rows i h]
  simp [cutT]
theorem nth_inj {l : List Int} (h : l.Nodup) {i j : Nat} (hi : i < l.length) (hj : j < l.length) (e : nth l i = nth l j) : i = j := by
  have h1 := idx_nth h hi
  have h2 := idx_nth h hj
  rw [e] at h1; omega
theorem PO_cut {t : List (List Int)} {rows cols rows' cols' : List Int} (hc : cols.Nodup) (hr' : ∀ i ∈ rows', 0 ≤ i ∧ i < rows.length) (hc' : ∀ i ∈ cols', 0 ≤ i ∧ i < cols.length) :
    PO (cutT t rows cols) rows' cols' ↔ PO t (rows'.map fun i => nth rows i.toNat) (cols'.map fun i => nth cols i.toNat) := by
  constructor
  · rintro ⟨o, h1, h2, h3⟩
    have ho : ∀ x ∈ o, 0 ≤ x ∧ x < cols.length := fun x hx => hc' x ((h2 x).1 hx)
    refine ⟨o.map fun i => nth cols i.toNat, nodup_map h1 fun a ha b hb e => ?_, fun x => ?_, fun j hj => ?_⟩
    · have ha := ho a ha
      have hb := ho b hb
      have := nth_inj hc (by omega) (by omega) e
      omega
    · simp only [List.mem_map]
      exact ⟨fun ⟨a, ha, e⟩ => ⟨a, (h2 a).1 ha, e⟩, fun ⟨a, ha, e⟩ => ⟨a, (h2 a).2 ha, e⟩⟩
    · obtain ⟨i, hi, rfl⟩ := List.mem_map.1 hj
      have hri := hr' i hi
      have h := h3 i hi
      rw [cutT_nth (by omega)] at h
      refine h.map fun x hx => ?_
      have := ho x hx
      rw [mem_cutN]
      exact ⟨fun h => ⟨by omega, by omega, h⟩, fun h => h.2.2⟩
  · rintro ⟨o, h1, h2, h3⟩
    have ho : ∀ x ∈ o, ∃ k : Nat, k < cols.length ∧ x = nth cols k ∧ (k : Int) ∈ cols' := fun x hx => by
      obtain ⟨i, hi, rfl⟩ := List.mem_map.1 ((h2 x).1 hx)
      have := hc' i hi
      refine ⟨i.toNat, by omega, rfl, ?_⟩
      rw [show ((i.toNat : Nat) : Int) = i by omega]; exact hi
    refine ⟨o.map (idx cols), nodup_map h1 fun a ha b hb e => ?_, fun x => ?_, fun j hj => ?_⟩
    · obtain ⟨k, hk, rfl, _⟩ := ho a ha
      obtain ⟨l, hl, rfl, _⟩ := ho b hb
      rw [idx_nth hc hk, idx_nth hc hl] at e
      rw [show k = l by omega]
    · simp only [List.mem_map]
      constructor
      · rintro ⟨a, ha, rfl⟩
        obtain ⟨k, hk, rfl, h⟩ := ho a ha
        rw [idx_nth hc hk]; exact h
      · intro hx
        have hx' := hc' x hx
        refine ⟨nth cols x.toNat, (h2 _).2 (List.mem_map.2 ⟨x, hx, rfl⟩), ?_⟩
        rw [idx_nth hc (by omega)]; omega
    · have hrj := hr' j hj
      rw [cutT_nth (by omega)]
      refine (h3 _ (List.mem_map.2 ⟨j, hj, rfl⟩)).map fun x hx => ?_
      obtain ⟨k, hk, rfl, _⟩ := ho x hx
      rw [mem_cutN, idx_nth hc hk]
      simp only [Int.toNat_natCast]
      exact ⟨fun h => h.2.2, fun h => ⟨by omega, by omega, h⟩⟩
theorem asc_of {l : List Int} {lo hi : Int} (h1 : l.Pairwise (· < ·)) (h2 : ∀ x ∈ l, lo ≤ x ∧ x ≤ hi) : asc l lo hi = true := by
  refine decide_eq_true fun i hi' => ?_
  have := h2 _ (nth_mem l i hi')
  refine ⟨this.1, this.2, fun h0 => ?_⟩
  rw [nth_eq l i hi', nth_eq l (i - 1) (by omega)]
  exact List.pairwise_iff_getElem.1 h1 (i - 1) i (by omega) hi' (by omega)
theorem map_upto (l : List Int) : ((upto l.length).map fun i => nth l i.toNat) = l := by
  refine nth_ext (by simp [upto_len]) fun j hj => ?_
  have hj' : j < l.length := by simpa [upto_len] using hj
  rw [nth_eq _ j hj, nth_eq l j hj']
  simp [upto, nth_eq l j hj']
theorem part_of {n : Int} {t : List (List Int)} {rows cols : List Int} (h : part n t rows cols = true) : asc rows 0 ((t.length : Int) - 1) = true ∧ asc cols 0 (n - 1) = true := by
  simpa [part, Bool.and_eq_true] using h
theorem cutN_pw (r cols : List Int) (k : Nat) : (cutN r cols k).Pairwise (· < ·) := by
  unfold cutN
  rw [List.pairwise_map]
  exact (List.pairwise_lt_range.filter _).imp fun h => by omega
theorem cut_valid {n : Int} {t : List (List Int)} {rows cols : List Int} (hv : validT n t = true) (h : part n t rows cols = true) : validT cols.length (cutT t rows cols) = true := by
  obtain ⟨h1, h2, h3, h4⟩ := validT_of hv
  obtain ⟨p1, p2⟩ := part_of h
  have hrl := asc_len p1
  have hcl := asc_len p2
  refine decide_eq_true ⟨by omega, by omega, by simp [cutT]; omega, fun i hi => ?_⟩
  have hi' : i < rows.length := by simpa [cutT] using hi
  rw [cutT_nth hi']
  refine asc_of (cutN_pw _ _ _) fun x hx => ?_
  have := mem_cutN.1 hx
  omega
theorem obs_iff {n : Int} {t : List (List Int)} (hv : validT n t = true) (rows cols : List Int) : obs possR n t rows cols = true ↔ part n t rows cols = true ∧ ¬ PO t rows cols := by
  unfold obs cutR cutErr
  rw [if_neg (by rw [hv]; simp)]
  cases hp : part n t rows cols with
  | false => simp
  | true =>
    obtain ⟨p1, p2⟩ := part_of hp
    simp only [Bool.true_eq_false, if_false, if_true, decide_true, Bool.true_and, Bool.not_eq_true', true_and]
    rw [← Bool.not_eq_true, possR_PO (cut_valid hv hp), Int.toNat_natCast, PO_cut (pw_nodup (asc_pw p2)) (fun i hi => ?_) (fun i hi => mem_upto.1 hi)]
    · rw [show (cutT t rows cols).length = rows.length by simp [cutT], map_upto, map_upto]
    · have := mem_upto.1 hi
      simp [cutT] at this
      omega
theorem obs_valid {P : Int → List (List Int) → Bool} {n : Int} {t : List (List Int)} {rows cols : List Int} (h : obs P n t rows cols = true) : validT n t = true := by
  unfold obs cutErr at h
  cases hv : validT n t with
  | true => rfl
  | false => simp [hv] at h
theorem part_all {n : Int} {t : List (List Int)} (hv : validT n t = true) : asc (upto t.length) 0 ((t.length : Int) - 1) = true ∧ asc (upto n.toNat) 0 (n - 1) = true := by
  obtain ⟨h1, h2, h3, h4⟩ := validT_of hv
  exact ⟨asc_of (upto_pw _) fun x hx => by have := mem_upto.1 hx; omega, asc_of (upto_pw _) fun x hx => by have := mem_upto.1 hx; omega⟩
theorem part_mk {n : Int} {t : List (List Int)} {rows cols : List Int} (h1 : asc rows 0 ((t.length : Int) - 1) = true) (h2 : asc cols 0 (n - 1) = true) : part n t rows cols = true := by
  unfold part; rw [h1, h2]; rfl
theorem obs_all {n : Int} {t : List (List Int)} (hv : validT n t = true) : obs possR n t (upto t.length) (upto n.toNat) = !possR n t := by
  rw [Bool.eq_iff_iff, obs_iff hv, Bool.not_eq_true', ← Bool.not_eq_true, possR_PO hv]
  have := part_all hv
  exact ⟨fun h => h.2, fun h => ⟨part_mk this.1 this.2, h⟩⟩
/-! ### an obstruction stays one in a larger part -/
theorem asc_mem {l : List Int} {lo hi : Int} (h : asc l lo hi = true) {x : Int} (hx : x ∈ l) : lo ≤ x ∧ x ≤ hi := by
  obtain ⟨j, hj, rfl⟩ := List.getElem_of_mem hx
  rw [← nth_eq l j hj]
  exact asc_rng h j hj
theorem obs_rows {n : Int} {t : List (List Int)} {rows cols : List Int} (h : obs possR n t rows cols = true) : obs possR n t (upto t.length) cols = true := by
  have hv := obs_valid h
  obtain ⟨h1, h2⟩ := (obs_iff hv _ _).1 h
  obtain ⟨p1, p2⟩ := part_of h1
  refine (obs_iff hv _ _).2 ⟨part_mk (part_all hv).1 p2, fun hp => h2 (hp.mono (fun j hj => mem_upto.2 ?_) fun _ h => h)⟩
  have := asc_mem p1 hj
  omega
theorem obs_cols {n : Int} {t : List (List Int)} {rows cols : List Int} (h : obs possR n t rows cols = true) : obs possR n t rows (upto n.toNat) = true := by
  have hv := obs_valid h
  obtain ⟨h1, h2⟩ := (obs_iff hv _ _).1 h
  obtain ⟨p1, p2⟩ := part_of h1
  refine (obs_iff hv _ _).2 ⟨part_mk p1 (part_all hv).2, fun hp => h2 (hp.mono (fun _ h => h) fun j hj => mem_upto.2 ?_)⟩
  have := asc_mem p2 hj
  have := (validT_of hv).1
  omega
theorem obs_not {n : Int} {t : List (List Int)} {rows cols : List Int} (h : obs possR n t rows cols = true) : possR n t = false := by
  have hv := obs_valid h
  have := obs_cols (obs_rows h)
  rw [obs_all hv] at this
  simpa using this
end Go.Proofs.Ytjplkpppjlgheaa

open Go Go.AL Go.RowKit
namespace Go.Proofs.Ytjplkpppjlgheaa
set_option maxRecDepth 20000

/-! ### orders without gaps -/
theorem runErr_zero {n : Int} {t : List (List Int)} {o : List Int} : runErr n t o = 0 ↔ validT n t = true ∧ isOrd o n = true := by
  unfold runErr
  cases validT n t <;> cases isOrd o n <;> simp
theorem runsL_nth {n : Int} {t : List (List Int)} {o : List Int} (h : runErr n t o = 0) : (runsL n t o).length = t.length ∧ ∀ i, i < t.length → nth (runsL n t o) i = ((runsN (nth t i) o o.length : Nat) : Int) := by
  unfold runsL
  rw [if_pos h]
  refine ⟨by simp, fun i hi => ?_⟩
  rw [nth_eq _ i (by simpa using hi), nth_eq t i hi]; simp
theorem gapsV_zero {n : Int} {t : List (List Int)} {o : List Int} : gapsV n t o = 0 ↔ ∀ i, i < (runsL n t o).length → nth (runsL n t o) i ≤ 1 :=
  (gapN_zero (l := runsL n t o) (fun x hx => ((runsL_len n t o).2 x hx).1) (runsL n t o).length (Nat.le_refl _)).2
theorem gapless_iff {n : Int} {t : List (List Int)} {o : List Int} : gapless n t o = true ↔ validT n t = true ∧ isOrd o n = true ∧ ∀ i, i < t.length → C1 o (nth t i) := by
  unfold gapless
  rw [Bool.and_eq_true, decide_eq_true_eq, decide_eq_true_eq, gapsV_zero]
  constructor
  · rintro ⟨h1, h2⟩
    obtain ⟨g1, g2⟩ := runErr_zero.1 h1
    obtain ⟨l1, l2⟩ := runsL_nth h1
    refine ⟨g1, g2, fun i hi => runs_iff.1 ?_⟩
    have := h2 i (by omega)
    rw [l2 i hi] at this
    omega
  · rintro ⟨g1, g2, h⟩
    have h1 := runErr_zero.2 ⟨g1, g2⟩
    obtain ⟨l1, l2⟩ := runsL_nth h1
    refine ⟨h1, fun i hi => ?_⟩
    rw [l2 i (by omega)]
    have := runs_iff.2 (h i (by omega))
    omega
theorem isOrd_iff {o : List Int} {n : Int} : isOrd o n = true ↔ 0 ≤ n ∧ Pre n.toNat o ∧ o.length = n.toNat := by
  unfold isOrd
  rw [decide_eq_true_eq]
  constructor
  · rintro ⟨h1, h2⟩
    refine ⟨by omega, ⟨?_, fun x hx => ?_⟩, by omega⟩
    · rw [List.nodup_iff_pairwise_ne, List.pairwise_iff_getElem]
      intro i j hi hj hij e
      refine (h2 j hj).2.2 i hij ?_
      rw [nth_eq o i hi, nth_eq o j hj, e]
    · obtain ⟨i, hi, rfl⟩ := List.getElem_of_mem hx
      have := h2 i hi
      rw [nth_eq o i hi] at this
      omega
  · rintro ⟨h0, hp, hl⟩
    refine ⟨by omega, fun i hi => ?_⟩
    have := hp.rg _ (nth_mem o i hi)
    refine ⟨this.1, by omega, fun k hk e => ?_⟩
    have := nth_inj hp.nd hi (by omega) e
    omega
theorem ords_filter {n : Int} {t : List (List Int)} (h : validT n t = true) : ords n t = (perm n.toNat n.toNat []).filter fun o => gapless n t o := by
  rw [ords_eq h]; unfold allR; rw [lev_eq]
theorem mem_ords {n : Int} {t : List (List Int)} (h : validT n t = true) {o : List Int} : o ∈ ords n t ↔ gapless n t o = true := by
  rw [ords_filter h, List.mem_filter]
  constructor
  · exact fun h => h.2
  · intro hg
    obtain ⟨h1, h2, h3⟩ := isOrd_iff.1 (gapless_iff.1 hg).2.1
    exact ⟨perm_all _ _ _ h2 List.nil_prefix (by simpa using h3), hg⟩
theorem poss_iff {n : Int} {t : List (List Int)} : poss n t = true ↔ validT n t = true ∧ ords n t ≠ [] := by
  unfold poss
  cases ords n t <;> simp
/-! ### runs from both sides -/
theorem runs_cons (r : List Int) (x : Int) : ∀ (m : Nat) (l : List Int), l.length = m → runsN r (x :: l) (x :: l).length = runsN r l l.length + if x ∈ r ∧ (l.length = 0 ∨ nth l 0 ∉ r) then 1 else 0
  | 0, l, hl => by
    obtain rfl := List.length_eq_zero_iff.1 hl
    simp [runsN, nth]
  | m + 1, l, hl => by
    have hne : l ≠ [] := fun e => by subst e; simp at hl
    obtain ⟨b, c, rfl⟩ : ∃ b c, l = b ++ [c] := ⟨l.dropLast, l.getLast hne, (List.dropLast_concat_getLast hne).symm⟩
    have ih := runs_cons r x m b (by simpa using hl)
    have h1 := runs_snoc r (x :: b) c
    have h2 := runs_snoc r b c
    rw [List.cons_append] at h1
    rw [h1, h2, ih]
    cases b with
    | nil =>
      simp [nth, runsN]
      by_cases hx : x ∈ r <;> by_cases hc : c ∈ r <;> simp [hx, hc]
    | cons y b =>
      have e1 : nth (y :: b ++ [c]) 0 = y := rfl
      have e2 : nth (y :: b) 0 = y := rfl
      have e3 : nth (x :: y :: b) ((x :: y :: b).length - 1) = nth (y :: b) ((y :: b).length - 1) := by
        rw [nth_eq _ _ (by simp), nth_eq _ _ (by simp)]
        simp
      rw [e1, e2, e3]
      simp
      omega
theorem runs_rev (r : List Int) : ∀ l : List Int, runsN r l.reverse l.reverse.length = runsN r l l.length
  | [] => rfl
  | x :: l => by
    have ih := runs_rev r l
    rw [List.reverse_cons, runs_snoc, ih, runs_cons r x l.length l rfl]
    congr 1
    cases l with
    | nil => simp
    | cons y l =>
      have e1 : nth (y :: l) 0 = y := rfl
      have e2 : nth (y :: l).reverse ((y :: l).reverse.length - 1) = y := by
        rw [nth_eq _ _ (by simp)]
        simp
      rw [e1, e2]
      simp
theorem isOrd_rev (o : List Int) (n : Int) : isOrd o.reverse n = isOrd o n := by
  have key : ∀ o : List Int, isOrd o n = true → isOrd o.reverse n = true := fun o h => by
    obtain ⟨h1, h2, h3⟩ := isOrd_iff.1 h
    refine isOrd_iff.2 ⟨h1, ⟨?_, fun x hx => h2.rg x (by simpa using hx)⟩, by simpa using h3⟩
    exact (List.reverse_perm o).nodup_iff.2 h2.nd
  rw [Bool.eq_iff_iff]
  refine ⟨fun h => ?_, key o⟩
  have := key _ h
  rwa [List.reverse_reverse] at this
theorem runErr_rev (n : Int) (t : List (List Int)) (o : List Int) : runErr n t o.reverse = runErr n t o := by
  unfold runErr; rw [isOrd_rev]
theorem runsL_rev (n : Int) (t : List (List Int)) (o : List Int) : runsL n t o.reverse = runsL n t o := by
  unfold runsL
  rw [runErr_rev]
  split
  · refine List.map_congr_left fun r _ => ?_
    rw [runs_rev]
  · rfl
theorem gapless_rev (n : Int) (t : List (List Int)) (o : List Int) : gapless n t o.reverse = gapless n t o := by
  unfold gapless gapsV
  rw [runErr_rev, runsL_rev]
/-! ### an even number of orders -/
theorem even_of : ∀ (m : Nat) (L : List (List Int)), L.length ≤ m → L.Nodup → (∀ o ∈ L, o.reverse ∈ L ∧ o.reverse ≠ o) → L.length % 2 = 0
  | 0, L, hl, _, _ => by
    obtain rfl := List.length_eq_zero_iff.1 (by omega : L.length = 0)
    rfl
  | m + 1, [], _, _, _ => rfl
  | m + 1, x :: L, hl, hn, h => by
    obtain ⟨h1, h2⟩ := h x (by simp)
    have hx : x.reverse ∈ L := by
      rcases List.mem_cons.1 h1 with e | h
      · exact absurd e h2
      · exact h
    rw [List.nodup_cons] at hn
    have hlen := List.length_erase_of_mem hx
    have hpos := List.length_pos_of_mem hx
    have ih := even_of m (L.erase x.reverse) (by simp at hl; omega) (hn.2.erase _) fun o ho => by
      rw [hn.2.mem_erase_iff] at ho
      obtain ⟨q1, q2⟩ := h o (List.mem_cons_of_mem _ ho.2)
      refine ⟨(hn.2.mem_erase_iff).2 ⟨fun e => ?_, ?_⟩, q2⟩
      · have := congrArg List.reverse e
        simp at this
        exact hn.1 (this ▸ ho.2)
      · rcases List.mem_cons.1 q1 with e | h
        · exfalso
          refine ho.1 ?_
          rw [← e, List.reverse_reverse]
        · exact h
    simp only [List.length_cons]
    omega
theorem perm_nodup {n : Nat} : ∀ (k : Nat) (b : List Int), (perm n k b).Nodup ∧ ∀ o ∈ perm n k b, b <+: o
  | 0, b => by simp [perm]
  | k + 1, b => by
    have hpre : ∀ o ∈ perm n (k + 1) b, b <+: o := fun o ho => by
      simp only [perm, List.mem_flatMap] at ho
      obtain ⟨c, _, ho⟩ := ho
      split at ho
      · simp at ho
      · exact List.IsPrefix.trans (List.prefix_append _ _) ((perm_nodup k _).2 o ho)
    refine ⟨?_, hpre⟩
    simp only [perm]
    rw [List.nodup_iff_pairwise_ne, List.pairwise_flatMap]
    refine ⟨fun c _ => ?_, ?_⟩
    · split
      · exact List.Pairwise.nil
      · exact (perm_nodup k _).1
    · refine List.Pairwise.imp ?_ List.pairwise_lt_range
      intro c d hcd x hx y hy e
      subst e
      split at hx
      · simp at hx
      · split at hy
        · simp at hy
        · have p1 := (perm_nodup k _).2 x hx
          have p2 := (perm_nodup k _).2 x hy
          have e1 := nth_pre p1 (i := b.length) (by simp)
          have e2 := nth_pre p2 (i := b.length) (by simp)
          have q1 : ∀ c : Int, nth (b ++ [c]) b.length = c := fun c => by
            rw [nth_eq _ _ (by simp)]; simp
          rw [q1] at e1 e2
          omega
theorem ords_nodup (n : Int) (t : List (List Int)) : (ords n t).Nodup := by
  cases hv : validT n t with
  | false => unfold ords; rw [if_neg (by rw [hv]; simp)]; exact List.nodup_nil
  | true =>
    rw [ords_filter hv]
    exact List.Nodup.sublist List.filter_sublist (perm_nodup _ _).1
theorem ords_even {n : Int} {t : List (List Int)} (h2 : 2 ≤ n) : (ords n t).length % 2 = 0 := by
  cases hv : validT n t with
  | false => unfold ords; rw [if_neg (by rw [hv]; simp)]; rfl
  | true =>
    refine even_of _ _ (Nat.le_refl _) (ords_nodup n t) fun o ho => ?_
    rw [mem_ords hv] at ho
    refine ⟨(mem_ords hv).2 (by rw [gapless_rev]; exact ho), fun e => ?_⟩
    obtain ⟨h0, hp, hl⟩ := isOrd_iff.1 (gapless_iff.1 ho).2.1
    have e2 : nth o.reverse 0 = nth o 0 := by rw [e]
    have e3 : nth o.reverse 0 = nth o (o.length - 1) := by
      rw [nth_eq _ _ (by rw [List.length_reverse]; omega), nth_eq _ _ (by omega), List.getElem_reverse]
      congr 1
    have := nth_inj hp.nd (by omega) (by omega) (e3.symm.trans e2)
    omega
/-! ### rows that say nothing; unions and intersections -/
theorem cnt_mono {n : Int} {t u : List (List Int)} (ht : validT n t = true) (hu : validT n u = true) (h : ∀ o, isOrd o n = true → (∀ i, i < t.length → C1 o (nth t i)) → ∀ i, i < u.length → C1 o (nth u i)) : (ords n t).length ≤ (ords n u).length := by
  rw [ords_filter ht, ords_filter hu, ← List.countP_eq_length_filter, ← List.countP_eq_length_filter]
  refine List.countP_mono_left fun o _ hg => ?_
  obtain ⟨_, g2, g3⟩ := gapless_iff.1 hg
  exact gapless_iff.2 ⟨hu, g2, h o g2 g3⟩
theorem C1_nil (o : List Int) : C1 o [] := fun x y z _ hx => by simp at hx
theorem C1_one {o : List Int} (hn : o.Nodup) (c : Int) : C1 o [c] := fun x y z hs hx hz => by
  have := List.Nodup.sublist hs hn
  simp at hx hz
  subst hx; subst hz
  simp at this
theorem C1_whole {o : List Int} {n : Int} (h : isOrd o n = true) : C1 o (upto n.toNat) := fun x y z hs _ _ => by
  obtain ⟨h0, hp, hl⟩ := isOrd_iff.1 h
  have := hp.rg y (hs.subset (by simp))
  exact mem_upto.2 this
theorem nth_app {α : Type} [Inhabited α] (t : List α) (r : α) (i : Nat) (hi : i < (t ++ [r]).length) : (i < t.length ∧ nth (t ++ [r]) i = nth t i) ∨ (i = t.length ∧ nth (t ++ [r]) i = r) := by
  rcases Nat.lt_or_ge i t.length with h | h
  · left
    refine ⟨h, ?_⟩
    rw [nth_eq _ i hi, nth_eq t i h, List.getElem_append_left h]
  · right
    have e : i = t.length := by simp at hi; omega
    subst e
    refine ⟨rfl, ?_⟩
    rw [nth_eq _ _ hi]; simp
theorem valid_app {n : Int} {t : List (List Int)} {r : List Int} (h : validT n t = true) (hl : t.length ≤ 15) (hr : asc r 0 (n - 1) = true) : validT n (t ++ [r]) = true := by
  obtain ⟨h1, h2, h3, h4⟩ := validT_of h
  refine decide_eq_true ⟨h1, h2, by simp; omega, fun i hi => ?_⟩
  rcases nth_app t r i hi with ⟨q1, q2⟩ | ⟨q1, q2⟩
  · rw [q2]; exact h4 i q1
  · rw [q2]; exact hr
theorem cnt_app {n : Int} {t : List (List Int)} {r : List Int} (h : validT n t = true) (hl : t.length ≤ 15) (hr : asc r 0 (n - 1) = true) (hc : ∀ o, isOrd o n = true → (∀ i, i < t.length → C1 o (nth t i)) → C1 o r) : (ords n (t ++ [r])).length = (ords n t).length := by
  have hv := valid_app h hl hr
  refine Nat.le_antisymm (cnt_mono hv h fun o _ ho i hi => ?_) (cnt_mono h hv fun o hord ho i hi => ?_)
  · have := ho i (by simp; omega)
    rcases nth_app t r i (by simp; omega) with ⟨q1, q2⟩ | ⟨q1, q2⟩
    · rwa [q2] at this
    · omega
  · rcases nth_app t r i hi with ⟨q1, q2⟩ | ⟨q1, q2⟩
    · rw [q2]; exact ho i q1
    · rw [q2]; exact hc o hord ho
theorem nth_woT {t : List (List Int)} {k : Nat} (hk : k < t.length) {i : Nat} (hi : i < (t.take k ++ t.drop (k + 1)).length) : ∃ j, j < t.length ∧ nth (t.take k ++ t.drop (k + 1)) i = nth t j := by
  have hl : (t.take k ++ t.drop (k + 1)).length = t.length - 1 := by simp; omega
  rcases Nat.lt_or_ge i k with h | h
  · refine ⟨i, by omega, ?_⟩
    rw [nth_eq _ i hi, nth_eq t i (by omega), List.getElem_append_left (by simp; omega)]
    simp
  · refine ⟨i + 1, by omega, ?_⟩
    rw [nth_eq _ i hi, nth_eq t (i + 1) (by omega), List.getElem_append_right (by simp; omega)]
    simp
    congr 1
    omega
theorem cnt_less {n : Int} {t : List (List Int)} {k : Nat} (h : validT n t = true) (hk : k < t.length) : validT n (t.take k ++ t.drop (k + 1)) = true ∧ (ords n t).length ≤ (ords n (t.take k ++ t.drop (k + 1))).length := by
  obtain ⟨h1, h2, h3, h4⟩ := validT_of h
  have hv : validT n (t.take k ++ t.drop (k + 1)) = true := by
    refine decide_eq_true ⟨h1, h2, by simp; omega, fun i hi => ?_⟩
    obtain ⟨j, hj, e⟩ := nth_woT hk hi
    rw [e]; exact h4 j hj
  refine ⟨hv, cnt_mono h hv fun o _ ho i hi => ?_⟩
  obtain ⟨j, hj, e⟩ := nth_woT hk hi
  rw [e]; exact ho j hj
theorem C1_union {o A B U : List Int} (hA : C1 o A) (hB : C1 o B) {c : Int} (hcA : c ∈ A) (hcB : c ∈ B) (hco : c ∈ o) (hU : ∀ x ∈ o, x ∈ U ↔ x ∈ A ∨ x ∈ B) : C1 o U := by
  intro x y z hs hx hz
  have hm := hs.subset
  rw [hU _ (hm (by simp))] at hx hz ⊢
  obtain ⟨l1, l2, rfl, h1, hs⟩ := List.cons_sublist_iff.1 hs
  obtain ⟨m1, m2, rfl, h2, hs⟩ := List.cons_sublist_iff.1 hs
  have h3 := List.singleton_sublist.1 hs
  obtain ⟨p, q, rfl⟩ := List.append_of_mem h2
  have hx1 : [x].Sublist (l1 ++ p) := List.singleton_sublist.2 (List.mem_append_left _ h1)
  have hz1 : [z].Sublist (q ++ m2) := List.singleton_sublist.2 (List.mem_append_right _ h3)
  have ho : l1 ++ ((p ++ y :: q) ++ m2) = (l1 ++ p) ++ ([y] ++ (q ++ m2)) := by simp
  rw [ho] at hA hB hco
  have hy1 : [y].Sublist [y] := List.Sublist.refl _
  have hxyz : ∀ (a b : Int), a ∈ l1 ++ p → b ∈ q ++ m2 → [a, y, b].Sublist ((l1 ++ p) ++ ([y] ++ (q ++ m2))) := fun a b ha hb =>
    List.Sublist.append (List.singleton_sublist.2 ha) (List.Sublist.append hy1 (List.singleton_sublist.2 hb))
  have hx' : x ∈ l1 ++ p := List.mem_append_left _ h1
  have hz' : z ∈ q ++ m2 := List.mem_append_right _ h3
  have hcc : c ∈ l1 ++ p ∨ c = y ∨ c ∈ q ++ m2 := by
    rcases List.mem_append.1 hco with h | h
    · exact .inl h
    · rcases List.mem_append.1 h with h | h
      · exact .inr (.inl (by simpa using h))
      · exact .inr (.inr h)
  rcases hx with hx | hx <;> rcases hz with hz | hz
  · exact .inl (hA x y z (hxyz x z hx' hz') hx hz)
  · rcases hcc with h | h | h
    · exact .inr (hB c y z (hxyz c z h hz') hcB hz)
    · exact .inl (h ▸ hcA)
    · exact .inl (hA x y c (hxyz x c hx' h) hx hcA)
  · rcases hcc with h | h | h
    · exact .inl (hA c y z (hxyz c z h hz') hcA hz)
    · exact .inl (h ▸ hcA)
    · exact .inr (hB x y c (hxyz x c hx' h) hx hcB)
  · exact .inr (hB x y z (hxyz x z hx' hz') hx hz)
theorem C1_inter {o A B U : List Int} (hA : C1 o A) (hB : C1 o B) (hU : ∀ x ∈ o, x ∈ U ↔ x ∈ A ∧ x ∈ B) : C1 o U := by
  intro x y z hs hx hz
  have hm := hs.subset
  rw [hU _ (hm (by simp))] at hx hz ⊢
  exact ⟨hA x y z hs hx.1 hz.1, hB x y z hs hx.2 hz.2⟩
/-! ### how many runs -/
theorem sub_len : ∀ (l r : List Int), l.Nodup → (∀ x ∈ l, x ∈ r) → l.length ≤ r.length
  | [], r, _, _ => Nat.zero_le _
  | x :: l, r, hn, h => by
    rw [List.nodup_cons] at hn
    have hx := h x (by simp)
    have ih := sub_len l (r.erase x) hn.2 fun y hy => (List.mem_erase_of_ne (fun (e : y = x) => hn.1 (e ▸ hy))).2 (h y (List.mem_cons_of_mem _ hy))
    have := List.length_erase_of_mem hx
    have := List.length_pos_of_mem hx
    simp only [List.length_cons]
    omega
theorem runs_cnt (r o : List Int) : ∀ k, k ≤ o.length → runsN r o k ≤ ((o.take k).filter fun x => decide (x ∈ r)).length
  | 0, _ => by simp [runsN]
  | k + 1, hk => by
    have ih := runs_cnt r o k (by omega)
    simp only [runsN]
    rw [List.take_succ_eq_append_getElem (by omega), List.filter_append, List.length_append, ← nth_eq o k (by omega)]
    by_cases h : nth o k ∈ r
    · simp [h]
      split <;> omega
    · rw [if_neg (fun h' => h h'.1)]
      omega
theorem runs_le_row {n : Int} {o r : List Int} (h : isOrd o n = true) : runsN r o o.length ≤ r.length := by
  obtain ⟨h0, hp, hl⟩ := isOrd_iff.1 h
  have h1 := runs_cnt r o o.length (Nat.le_refl _)
  rw [List.take_length] at h1
  refine Nat.le_trans h1 (sub_len _ _ (List.Nodup.sublist List.filter_sublist hp.nd) fun x hx => ?_)
  simp at hx; exact hx.2
theorem runs_eq_zero {n : Int} {o r : List Int} (h : isOrd o n = true) (hr : asc r 0 (n - 1) = true) : runsN r o o.length = 0 ↔ r.length = 0 := by
  obtain ⟨h0, hp, hl⟩ := isOrd_iff.1 h
  constructor
  · intro hz
    refine Classical.byContradiction fun hne => ?_
    have hx := asc_rng hr 0 (by omega)
    have hm : nth r 0 ∈ o := pig_mem hp.nd hp.rg hl hx.1 (by omega)
    obtain ⟨p, hpl, e⟩ := List.getElem_of_mem hm
    have := runs_pos r o o.length p hpl (by rw [nth_eq o p hpl, e]; exact nth_mem r 0 (by omega))
    omega
  · intro hz
    obtain rfl := List.length_eq_zero_iff.1 hz
    exact runs_zero _ _ _ fun j _ => by simp
end Go.Proofs.Ytjplkpppjlgheaa

open Go Go.AL Go.RowKit
namespace Go.Proofs.Ytjplkpppjlgheaa
set_option maxRecDepth 20000

/-! ### the search for the first order with the fewest gaps -/
def runsO (t : List (List Int)) (o : List Int) : List Int := t.map fun r => ((runsN r o o.length : Nat) : Int)
def gapO (t : List (List Int)) (o : List Int) : Int := gapN (runsO t o) t.length
theorem runsO_len (t : List (List Int)) (o : List Int) : (runsO t o).length = t.length := by simp [runsO]
theorem runsO_nth {t : List (List Int)} {o : List Int} {i : Nat} (h : i < t.length) : nth (runsO t o) i = ((runsN (nth t i) o o.length : Nat) : Int) := by
  rw [nth_eq _ i (by rw [runsO_len]; exact h), nth_eq t i h]
  simp [runsO]
theorem gapN_mono {a b : List Int} : ∀ k, (∀ i, i < k → nth a i ≤ nth b i) → gapN a k ≤ gapN b k
  | 0, _ => Int.le_refl _
  | k + 1, h => by
    have h1 := gapN_mono k fun i hi => h i (by omega)
    have h2 := h k (by omega)
    simp only [gapN]
    omega
theorem gapO_mono {t : List (List Int)} {b o : List Int} (h : b <+: o) : gapO t b ≤ gapO t o := by
  refine gapN_mono _ fun i hi => ?_
  rw [runsO_nth hi, runsO_nth hi]
  have h1 := runs_pre (nth t i) h b.length (Nat.le_refl _)
  obtain ⟨s, rfl⟩ := h
  have h2 := runs_mono (nth t i) (b ++ s) s.length b.length
  rw [List.length_append]
  omega
theorem gapN_nonneg {l : List Int} : ∀ k, 0 ≤ gapN l k
  | 0 => Int.le_refl _
  | k + 1 => by
    have := gapN_nonneg (l := l) k
    simp only [gapN]
    omega
theorem gapO_nonneg (t : List (List Int)) (o : List Int) : 0 ≤ gapO t o := gapN_nonneg _
abbrev BS := List Int × Int
def better (t : List (List Int)) (st : BS) (o : List Int) : BS := if st.2 < 0 ∨ gapO t o < st.2 then (o, gapO t o) else st
/-- the search below some columns -/
def pl (n : Nat) (t : List (List Int)) : Nat → List Int → BS → BS
  | 0, b, st => if 0 ≤ st.2 ∧ st.2 ≤ gapO t b then st else (b, gapO t b)
  | k + 1, b, st => if 0 ≤ st.2 ∧ st.2 ≤ gapO t b then st else (List.range n).foldl (fun st (c : Nat) => if (c : Int) ∈ b then st else pl n t k (b ++ [(c : Int)]) st) st
theorem better_no {t : List (List Int)} {st : BS} {b o : List Int} (h : 0 ≤ st.2 ∧ st.2 ≤ gapO t b) (hb : b <+: o) : better t st o = st := by
  have := gapO_mono (t := t) hb
  unfold better
  rw [if_neg (by omega)]
theorem foldl_id {α β : Type} {f : α → β → α} {a : α} : ∀ l : List β, (∀ b ∈ l, f a b = a) → l.foldl f a = a
  | [], _ => rfl
  | b :: l, h => by
    rw [List.foldl_cons, h b (by simp)]
    exact foldl_id l fun c hc => h c (List.mem_cons_of_mem _ hc)
theorem pl_eq {n : Nat} (t : List (List Int)) : ∀ (k : Nat) (b : List Int) (st : BS), pl n t k b st = (perm n k b).foldl (better t) st
  | 0, b, st => by
    simp only [pl, perm, List.foldl_cons, List.foldl_nil]
    unfold better
    split <;> split <;> first | rfl | omega
  | k + 1, b, st => by
    by_cases h : 0 ≤ st.2 ∧ st.2 ≤ gapO t b
    · simp only [pl]
      rw [if_pos h]
      symm
      exact foldl_id _ fun o ho => better_no h ((perm_nodup (k + 1) b).2 o ho)
    · simp only [pl, perm]
      rw [if_neg h, List.foldl_flatMap]
      congr 1
      funext st c
      split
      · rfl
      · exact pl_eq t k _ st
/-- the best of a list -/
theorem best_of (t : List (List Int)) : ∀ (L : List (List Int)) (st : BS), (0 ≤ st.2 ∨ L ≠ []) → 0 ≤ (L.foldl (better t) st).2 ∧
    ((L.foldl (better t) st = st ∧ 0 ≤ st.2) ∨ ((L.foldl (better t) st).1 ∈ L ∧ (L.foldl (better t) st).2 = gapO t (L.foldl (better t) st).1)) ∧ (0 ≤ st.2 → (L.foldl (better t) st).2 ≤ st.2) ∧ ∀ o ∈ L, (L.foldl (better t) st).2 ≤ gapO t o
  | [], st, h => by
    have h0 : 0 ≤ st.2 := h.resolve_right (by simp)
    simp [h0]
  | o :: L, st, h => by
    rw [List.foldl_cons]
    have hg := gapO_nonneg t o
    have hb0 : 0 ≤ (better t st o).2 := by unfold better; split <;> omega
    have hbo : (better t st o).2 ≤ gapO t o := by unfold better; split <;> omega
    have hbs : 0 ≤ st.2 → (better t st o).2 ≤ st.2 := fun h => by unfold better; split <;> omega
    obtain ⟨h1, h2, h3, h4⟩ := best_of t L (better t st o) (.inl hb0)
    refine ⟨h1, ?_, fun h => Int.le_trans (h3 hb0) (hbs h), fun x hx => ?_⟩
    · rcases h2 with ⟨h2, _⟩ | ⟨h2, h2'⟩
      · rw [h2]
        unfold better
        split
        · exact .inr ⟨by simp, rfl⟩
        · exact .inl ⟨rfl, by omega⟩
      · exact .inr ⟨List.mem_cons_of_mem _ h2, h2'⟩
    · rcases List.mem_cons.1 hx with rfl | hx
      · exact Int.le_trans (h3 hb0) hbo
      · exact h4 x hx
def leastV (n : Int) (t : List (List Int)) : BS := (perm n.toNat n.toNat []).foldl (better t) ([], -1)
theorem perm_ne (n : Nat) : perm n n [] ≠ [] := fun e => by
  have := perm_all n [] (upto n) ⟨pw_nodup (upto_pw n), fun x hx => by have := mem_upto.1 hx; omega⟩ List.nil_prefix (by simp [upto_len])
  rw [e] at this; simp at this
theorem gapsV_gapO {n : Int} {t : List (List Int)} {o : List Int} (h : runErr n t o = 0) : gapsV n t o = gapO t o := by
  unfold gapsV gapO
  have e : runsL n t o = runsO t o := by unfold runsL; rw [if_pos h]; rfl
  rw [e, runsO_len]
theorem perm_ord {n : Int} (h0 : 0 ≤ n) {o : List Int} : o ∈ perm n.toNat n.toNat [] ↔ isOrd o n = true := by
  rw [isOrd_iff]
  constructor
  · intro h
    obtain ⟨h1, h2, _⟩ := perm_mem _ _ o ⟨by simp, by simp⟩ h
    exact ⟨h0, h1, by simpa using h2⟩
  · rintro ⟨_, h1, h2⟩
    exact perm_all _ _ _ h1 List.nil_prefix (by simpa using h2)
theorem least_spec {n : Int} {t : List (List Int)} (h : validT n t = true) : isOrd (leastV n t).1 n = true ∧ (leastV n t).2 = gapO t (leastV n t).1 ∧ 0 ≤ (leastV n t).2 ∧ ∀ o, isOrd o n = true → (leastV n t).2 ≤ gapO t o := by
  have v := validT_of h
  obtain ⟨h1, h2, _, h4⟩ := best_of t (perm n.toNat n.toNat []) ([], -1) (.inr (perm_ne _))
  rcases h2 with ⟨_, h2⟩ | ⟨h2, h2'⟩
  · simp at h2
  · exact ⟨(perm_ord v.1).1 h2, h2', h1, fun o ho => h4 o ((perm_ord v.1).2 ho)⟩
end Go.Proofs.Ytjplkpppjlgheaa

