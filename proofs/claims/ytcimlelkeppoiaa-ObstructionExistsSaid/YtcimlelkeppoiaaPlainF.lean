/-
  Lemmas for the proof: no statement of its own.
-/
import Derived.Test.YtcimlelkeppoiaaWalkC
import Derived.Test.YtcimlelkeppoiaaPlainE
set_option linter.unusedVariables false
set_option linter.unusedSimpArgs false
open Go Go.AL Go.RowKit
namespace Go.Proofs.Ytcimlelkeppoiaa
set_option maxRecDepth 20000
theorem pig : ∀ (n : Nat) (l : List Int), l.Nodup → (∀ x ∈ l, 0 ≤ x ∧ x < n) → l.length ≤ n
  | 0, l, _, h => by
    cases l with
    | nil => simp
    | cons a r => have := h a (by simp); omega
  | n + 1, l, hn, h => by
    have h1 := pig n (l.erase (n : Int)) (hn.erase _) (fun x hx => by
      have h2 := h x (List.mem_of_mem_erase hx)
      have h3 : x ≠ (n : Int) := fun e => by subst e; exact (hn.not_mem_erase) hx
      omega)
    have := List.le_length_erase (a := (n : Int)) (l := l)
    omega
theorem pig_mem {n : Nat} {l : List Int} (hn : l.Nodup) (h : ∀ x ∈ l, 0 ≤ x ∧ x < n) (hl : l.length = n) {c : Int} (h0 : 0 ≤ c) (h1 : c < n) : c ∈ l := by
  by_cases hc : c ∈ l
  · exact hc
  · have := pig n (c :: l) (List.nodup_cons.2 ⟨hc, hn⟩) (fun x hx => by
      rcases List.mem_cons.1 hx with rfl | hx
      · exact ⟨h0, h1⟩
      · exact h x hx)
    simp at this; omega
def perm (n : Nat) : Nat → List Int → List (List Int)
  | 0, b => [b]
  | k + 1, b => (List.range n).flatMap fun (c : Nat) => if (c : Int) ∈ b then [] else perm n k (b ++ [(c : Int)])
theorem fm_filter {f : List Int → List (List Int)} (b : List Int) : ∀ l : List Nat, ((l.filter fun (v : Nat) => decide ((v : Int) ∉ b)).map fun (v : Nat) => b ++ [(v : Int)]).flatMap f = l.flatMap fun (c : Nat) => if (c : Int) ∈ b then [] else f (b ++ [(c : Int)])
  | [] => rfl
  | v :: l => by
    have ih := fm_filter (f := f) b l
    by_cases h : (v : Int) ∈ b
    · rw [List.filter_cons_of_neg (by simpa using h), List.flatMap_cons, if_pos h, List.nil_append]; exact ih
    · rw [List.filter_cons_of_pos (by simpa using h), List.map_cons, List.flatMap_cons, List.flatMap_cons, if_neg h, ih]
theorem perm_succ (n k : Nat) (b : List Int) : perm n (k + 1) b = (extN n b).flatMap (perm n k) := (fm_filter b (List.range n)).symm
theorem lev_perm (n : Nat) : ∀ k j, (lev n j).flatMap (perm n k) = lev n (j + k)
  | 0, j => by
    have : (perm n 0) = fun b => [b] := rfl
    rw [this]
    simp
  | k + 1, j => by
    have e : perm n (k + 1) = fun b => (extN n b).flatMap (perm n k) := funext fun b => perm_succ n k b
    rw [e, ← List.flatMap_assoc]
    have := lev_perm n k (j + 1)
    simp only [lev] at this
    rw [this]; congr 1; omega
theorem lev_eq (n k : Nat) : lev n k = perm n k [] := by
  have := lev_perm n k 0
  simpa [lev] using this.symm
structure Pre (n : Nat) (b : List Int) : Prop where
  nd : b.Nodup
  rg : ∀ x ∈ b, 0 ≤ x ∧ x < (n : Int)
theorem Pre.snoc {n : Nat} {b : List Int} (h : Pre n b) {c : Nat} (hc : c < n) (hb : (c : Int) ∉ b) : Pre n (b ++ [(c : Int)]) where
  nd := by
    rw [List.nodup_append]
    exact ⟨h.nd, by simp, fun a ha x hx => by simp at hx; subst hx; exact fun e => hb (e ▸ ha)⟩
  rg := fun x hx => by
    rcases List.mem_append.1 hx with hx | hx
    · exact h.rg x hx
    · simp at hx; subst hx; omega
theorem perm_mem {n : Nat} : ∀ (k : Nat) (b o : List Int), Pre n b → o ∈ perm n k b → Pre n o ∧ o.length = b.length + k ∧ b <+: o
  | 0, b, o, hp, h => by
    simp only [perm, List.mem_singleton] at h
    subst h
    exact ⟨hp, by simp, List.prefix_refl _⟩
  | k + 1, b, o, hp, h => by
    simp only [perm, List.mem_flatMap, List.mem_range] at h
    obtain ⟨c, hc, h⟩ := h
    split at h
    · simp at h
    · rename_i hb
      obtain ⟨h1, h2, h3⟩ := perm_mem k _ o (hp.snoc hc hb) h
      refine ⟨h1, by rw [h2]; simp; omega, (List.prefix_append b _).trans h3⟩
theorem nth_pre {b o : List Int} (h : b <+: o) {i : Nat} (hi : i < b.length) : nth o i = nth b i := by
  obtain ⟨z, rfl⟩ := h
  rw [nth_eq _ i (by simp; omega), nth_eq b i hi, List.getElem_append_left hi]
theorem runs_pre (r : List Int) {b o : List Int} (h : b <+: o) : ∀ k, k ≤ b.length → runsN r o k = runsN r b k
  | 0, _ => rfl
  | k + 1, hk => by
    simp only [runsN]
    rw [runs_pre r h k (by omega), nth_pre h (by omega)]
    rcases Nat.eq_zero_or_pos k with rfl | h0
    · simp
    · rw [nth_pre h (by omega : k - 1 < b.length)]
theorem runs_mono (r o : List Int) : ∀ d k, runsN r o k ≤ runsN r o (k + d)
  | 0, k => Nat.le_refl _
  | d + 1, k => by
    have := runs_mono r o d k
    rw [← Nat.add_assoc]
    simp only [runsN]
    omega
theorem runs_pos (r o : List Int) : ∀ k p, p < k → nth o p ∈ r → 1 ≤ runsN r o k
  | 0, p, h, _ => by omega
  | k + 1, p, h, hp => by
    simp only [runsN]
    rcases Nat.lt_succ_iff_lt_or_eq.1 h with h' | rfl
    · have := runs_pos r o k p h' hp; omega
    · by_cases h0 : p = 0
      · rw [if_pos ⟨hp, .inl h0⟩]; omega
      · by_cases h1 : nth o (p - 1) ∈ r
        · have := runs_pos r o p (p - 1) (by omega) h1; omega
        · rw [if_pos ⟨hp, .inr h1⟩]; omega
theorem runs_zero (r o : List Int) : ∀ k, (∀ j, j < k → nth o j ∉ r) → runsN r o k = 0
  | 0, _ => rfl
  | k + 1, h => by
    simp only [runsN]
    rw [runs_zero r o k (fun j hj => h j (by omega)), if_neg (fun h' => h k (by omega) h'.1)]
theorem runs_gap (r o : List Int) (p q : Nat) (hp : nth o p ∈ r) (hpq : p < q) (hq : nth o q ∉ r) : ∀ d, nth o (q + 1 + d) ∈ r → 2 ≤ runsN r o (q + 1 + d + 1)
  | 0, hs => by
    have h1 := runs_pos r o (q + 1) p (by omega) hp
    simp only [runsN, Nat.add_zero] at h1 ⊢
    have : ¬ (nth o q ∈ r ∧ (q = 0 ∨ nth o (q - 1) ∉ r)) := fun h => hq h.1
    rw [if_neg this] at h1 ⊢
    have h2 : nth o (q + 1) ∈ r ∧ (q + 1 = 0 ∨ nth o (q + 1 - 1) ∉ r) := ⟨by simpa using hs, .inr (by simpa using hq)⟩
    rw [if_pos h2]; omega
  | d + 1, hs => by
    by_cases h : nth o (q + 1 + d) ∈ r
    · have := runs_gap r o p q hp hpq hq d h
      have h2 := runs_mono r o 1 (q + 1 + d + 1)
      rw [show q + 1 + (d + 1) + 1 = q + 1 + d + 1 + 1 by omega]
      omega
    · have h1 := runs_pos r o (q + 1 + d + 1) p (by omega) hp
      rw [show q + 1 + (d + 1) + 1 = (q + 1 + d + 1) + 1 by omega, runsN]
      rw [show q + 1 + (d + 1) = q + 1 + d + 1 by omega] at hs
      rw [if_pos ⟨hs, .inr (by simpa using h)⟩]; omega
theorem runs_snoc (r b : List Int) (c : Int) : runsN r (b ++ [c]) (b ++ [c]).length = runsN r b b.length + if c ∈ r ∧ (b.length = 0 ∨ nth b (b.length - 1) ∉ r) then 1 else 0 := by
  have hp : b <+: b ++ [c] := List.prefix_append _ _
  rw [List.length_append, List.length_singleton, runsN, runs_pre r hp _ (Nat.le_refl _)]
  have e1 : nth (b ++ [c]) b.length = c := by rw [nth_eq _ _ (by simp)]; simp
  rw [e1]
  rcases Nat.eq_zero_or_pos b.length with h0 | h0
  · simp [h0]
  · rw [nth_pre hp (by omega : b.length - 1 < b.length)]
end Go.Proofs.Ytcimlelkeppoiaa

open Go Go.AL Go.RowKit
namespace Go.Proofs.Ytcimlelkeppoiaa
set_option maxRecDepth 20000
def okO (t : List (List Int)) (o : List Int) : Bool := decide (∀ i, i < t.length → runsN (nth t i) o o.length ≤ 1)
structure TabOk (n : Nat) (t : List (List Int)) : Prop where
  nd : ∀ i, i < t.length → (nth t i).Nodup
  rg : ∀ i, i < t.length → ∀ x ∈ nth t i, 0 ≤ x ∧ x < (n : Int)
structure Inv (n : Nat) (t : List (List Int)) (b left : List Int) : Prop where
  pre : Pre n b
  ll : left.length = t.length
  cnt : ∀ i, i < t.length → nth left i = (((nth t i).filter fun x => decide (x ∉ b)).length : Int)
  one : ∀ i, i < t.length → runsN (nth t i) b b.length ≤ 1
  lst : ∀ i, i < t.length → 0 < nth left i → nth left i < (nth t i).length → b.length ≠ 0 ∧ nth b (b.length - 1) ∈ nth t i
theorem cnt_in {c : Int} {b : List Int} (hb : c ∉ b) : ∀ r : List Int, r.Nodup → c ∈ r → (r.filter fun x => decide (x ∉ b ++ [c])).length + 1 = (r.filter fun x => decide (x ∉ b)).length
  | [], _, h => by simp at h
  | x :: r, hn, h => by
    rw [List.nodup_cons] at hn
    by_cases e : x = c
    · subst e
      have e2 : (r.filter fun y => decide (y ∉ b ++ [x])) = r.filter fun y => decide (y ∉ b) := List.filter_congr fun y hy => by
        have : y ≠ x := fun e => hn.1 (e ▸ hy)
        simp [this]
      rw [List.filter_cons_of_neg (by simp), e2, List.filter_cons_of_pos (by simpa using hb)]
      simp
    · have hr : c ∈ r := by
        rcases List.mem_cons.1 h with e' | h
        · exact absurd e'.symm e
        · exact h
      have ih := cnt_in hb r hn.2 hr
      by_cases hx : x ∈ b
      · rw [List.filter_cons_of_neg (by simp [hx]), List.filter_cons_of_neg (by simpa using hx)]; exact ih
      · rw [List.filter_cons_of_pos (by simp [hx, e]), List.filter_cons_of_pos (by simpa using hx), List.length_cons, List.length_cons]; omega
theorem cnt_out {c : Int} {b r : List Int} (h : c ∉ r) : (r.filter fun x => decide (x ∉ b ++ [c])) = r.filter fun x => decide (x ∉ b) := List.filter_congr fun y hy => by
  have : y ≠ c := fun e => h (e ▸ hy)
  simp [this]
theorem cnt_lt {b r : List Int} (h : (r.filter fun x => decide (x ∉ b)).length < r.length) : ∃ x ∈ r, x ∈ b := by
  refine Classical.byContradiction fun hn => ?_
  have : (r.filter fun x => decide (x ∉ b)) = r := List.filter_eq_self.2 fun x hx => by
    have : x ∉ b := fun hb => hn ⟨x, hx, hb⟩
    simpa using this
  rw [this] at h; omega
theorem cnt_pos {b r : List Int} (h : 0 < (r.filter fun x => decide (x ∉ b)).length) : ∃ x ∈ r, x ∉ b := by
  obtain ⟨x, hx⟩ := List.exists_mem_of_length_pos h
  rw [List.mem_filter] at hx
  exact ⟨x, hx.1, by simpa using hx.2⟩
theorem cnt_le (b r : List Int) : (r.filter fun x => decide (x ∉ b)).length ≤ r.length := List.length_filter_le _ _
theorem fm_congr {f g : Nat → List (List Int)} : ∀ {l : List Nat}, (∀ c ∈ l, f c = g c) → l.flatMap f = l.flatMap g
  | [], _ => rfl
  | c :: l, h => by rw [List.flatMap_cons, List.flatMap_cons, h c (by simp), fm_congr fun d hd => h d (List.mem_cons_of_mem _ hd)]
theorem fits_iff {t : List (List Int)} {left : List Int} {c : Int} : fitsB t left c t.length = true ↔ ∀ i, i < t.length → c ∉ nth t i → ¬ (0 < nth left i ∧ nth left i < (nth t i).length) := by
  unfold fitsB; rw [decide_eq_true_eq]
theorem inv_snoc {n : Nat} {t : List (List Int)} {b left : List Int} (hT : TabOk n t) (h : Inv n t b left) {c : Nat} (hc : c < n) (hb : (c : Int) ∉ b) (hf : fitsB t left c t.length = true) : Inv n t (b ++ [(c : Int)]) (nextL t left c t.length) := by
  rw [fits_iff] at hf
  have hll := h.ll
  have hnx : ∀ i, i < t.length → nth (nextL t left c t.length) i = if (c : Int) ∈ nth t i then nth left i - 1 else nth left i := fun i hi => by
    rw [nextL_nth t left c _ i (by omega)]; simp [hi]
  have hlast : nth (b ++ [(c : Int)]) ((b ++ [(c : Int)]).length - 1) = c := by
    rw [nth_eq _ _ (by simp)]; simp
  refine ⟨h.pre.snoc hc hb, by rw [nextL_len]; exact hll, fun i hi => ?_, fun i hi => ?_, fun i hi h0 h1 => ?_⟩
  · rw [hnx i hi, h.cnt i hi]
    by_cases hr : (c : Int) ∈ nth t i
    · have := cnt_in hb _ (hT.nd i hi) hr
      rw [if_pos hr]; omega
    · rw [if_neg hr, cnt_out hr]
  · rw [runs_snoc]
    have h1 := h.one i hi
    by_cases hs : (c : Int) ∈ nth t i ∧ (b.length = 0 ∨ nth b (b.length - 1) ∉ nth t i)
    · rw [if_pos hs]
      have hcn := h.cnt i hi
      have hle := cnt_le b (nth t i)
      have hin := cnt_in hb _ (hT.nd i hi) hs.1
      have : runsN (nth t i) b b.length = 0 := by
        refine runs_zero _ _ _ fun j hj hm => ?_
        have hlt : ((nth t i).filter fun x => decide (x ∉ b)).length < (nth t i).length := by
          rcases Nat.lt_or_eq_of_le hle with h' | h'
          · exact h'
          · exfalso
            have := List.length_filter_eq_length_iff.1 h' _ hm
            simp at this
            exact this (nth_mem b j hj)
        obtain ⟨q1, q2⟩ := h.lst i hi (by omega) (by omega)
        rcases hs.2 with h' | h'
        · exact q1 h'
        · exact h' q2
      omega
    · rw [if_neg hs]; omega
  · rw [hlast]
    refine ⟨by simp, ?_⟩
    by_cases hr : (c : Int) ∈ nth t i
    · exact hr
    · rw [hnx i hi, if_neg hr] at h0 h1
      exact absurd ⟨h0, h1⟩ (hf i hi hr)
theorem nofit {n k : Nat} {t : List (List Int)} {b left : List Int} (hT : TabOk n t) (h : Inv n t b left) {c : Nat} (hc : c < n) (hb : (c : Int) ∉ b) (hk : b.length + (k + 1) = n) (hf : fitsB t left c t.length = false) : (perm n k (b ++ [(c : Int)])).filter (okO t) = [] := by
  rw [List.filter_eq_nil_iff]
  intro o ho hok
  obtain ⟨hp, hl, hpr⟩ := perm_mem k _ o (h.pre.snoc hc hb) ho
  have hf' : ¬ ∀ i, i < t.length → (c : Int) ∉ nth t i → ¬ (0 < nth left i ∧ nth left i < (nth t i).length) := fun h' => by
    rw [fits_iff.2 h'] at hf; cases hf
  refine hf' fun i hi hcr ⟨h0, h1⟩ => ?_
  have hcn := h.cnt i hi
  obtain ⟨x, hx, hxb⟩ := cnt_lt (b := b) (r := nth t i) (by omega)
  obtain ⟨y, hy, hyb⟩ := cnt_pos (b := b) (r := nth t i) (by omega)
  have hol : o.length = n := by rw [hl]; simp; omega
  have hyr := hT.rg i hi y hy
  have hyo := pig_mem hp.nd hp.rg hol hyr.1 hyr.2
  obtain ⟨p, hpl, rfl⟩ := List.getElem_of_mem hxb
  obtain ⟨s, hsl, rfl⟩ := List.getElem_of_mem hyo
  have ep : nth o p = b[p] := by rw [nth_pre hpr (by simp; omega), nth_eq _ _ (by simp; omega), List.getElem_append_left hpl]
  have eq : nth o b.length = c := by rw [nth_pre hpr (by simp), nth_eq _ _ (by simp)]; simp
  have es : nth o s = o[s] := nth_eq o s hsl
  have hs1 : b.length < s := by
    rcases Nat.lt_trichotomy s b.length with h' | h' | h'
    · exfalso
      have : o[s] = b[s] := by rw [← nth_eq o s hsl, nth_pre hpr (by simp; omega), nth_eq _ _ (by simp; omega), List.getElem_append_left h']
      rw [this] at hyb
      exact hyb (by simp)
    · exfalso
      subst h'
      rw [← es, eq] at hy
      exact hcr hy
    · exact h'
  have hg := runs_gap (nth t i) o p b.length (by rw [ep]; exact hx) hpl (by rw [eq]; exact hcr) (s - b.length - 1) (by rw [show b.length + 1 + (s - b.length - 1) = s by omega, es]; exact hy)
  rw [show b.length + 1 + (s - b.length - 1) + 1 = s + 1 by omega] at hg
  have hm := runs_mono (nth t i) o (o.length - (s + 1)) (s + 1)
  rw [show s + 1 + (o.length - (s + 1)) = o.length by omega] at hm
  have := of_decide_eq_true hok i hi
  omega
theorem walks_eq {n : Nat} {t : List (List Int)} (hT : TabOk n t) : ∀ (k : Nat) (b left : List Int), Inv n t b left → b.length + k = n → walks n t k b left = (perm n k b).filter (okO t)
  | 0, b, left, h, hk => by
    simp only [walks, perm]
    rw [List.filter_cons_of_pos]
    · rfl
    · exact decide_eq_true h.one
  | k + 1, b, left, h, hk => by
    rw [walks_succ]
    simp only [perm]
    rw [List.filter_flatMap]
    refine fm_congr fun c hc => ?_
    have hc := List.mem_range.1 hc
    unfold br
    by_cases hb : (c : Int) ∈ b
    · rw [if_pos (.inl hb), if_pos hb]; rfl
    · rw [if_neg hb]
      cases hf : fitsB t left c t.length with
      | false => rw [if_pos (.inr rfl), nofit hT h hc hb hk hf]
      | true =>
        rw [if_neg (by simp [hb])]
        exact walks_eq hT k _ _ (inv_snoc hT h hc hb hf) (by simp; omega)
theorem tabOk {n : Int} {t : List (List Int)} (h : validT n t = true) : TabOk n.toNat t := by
  obtain ⟨h1, h2, h3, h4⟩ := validT_of h
  refine ⟨fun i hi => pw_nodup (asc_pw (h4 i hi)), fun i hi x hx => ?_⟩
  obtain ⟨j, hj, rfl⟩ := List.getElem_of_mem hx
  have := asc_rng (h4 i hi) j hj
  rw [nth_eq _ j hj] at this
  omega
theorem inv_nil {n : Nat} {t : List (List Int)} : Inv n t [] (t.map fun r => (r.length : Int)) := by
  have hn : ∀ i, i < t.length → nth (t.map fun r => (r.length : Int)) i = ((nth t i).length : Int) := fun i hi => by
    rw [nth_eq _ i (by simpa using hi), nth_eq _ i hi]; simp
  refine ⟨⟨by simp, by simp⟩, by simp, fun i hi => ?_, fun i hi => by simp [runsN], fun i hi _ h1 => ?_⟩
  · rw [hn i hi]
    have : ((nth t i).filter fun x => decide (x ∉ ([] : List Int))) = nth t i := List.filter_eq_self.2 (by simp)
    rw [this]
  · rw [hn i hi] at h1; omega
theorem gapN_zero {l : List Int} (h : ∀ x ∈ l, 0 ≤ x) : ∀ k, k ≤ l.length → (0 ≤ gapN l k) ∧ (gapN l k = 0 ↔ ∀ j, j < k → nth l j ≤ 1)
  | 0, _ => by simp [gapN]
  | k + 1, hk => by
    obtain ⟨h1, h2⟩ := gapN_zero h k (by omega)
    have h3 := h _ (nth_mem l k (by omega))
    simp only [gapN]
    refine ⟨by omega, ?_⟩
    constructor
    · intro e
      have e1 : gapN l k = 0 := by omega
      exact step_lt (h2.1 e1) (by omega)
    · intro e
      have := h2.2 fun j hj => e j (by omega)
      have := e k (by omega)
      omega
theorem gapless_eq {n : Int} {t : List (List Int)} (h : validT n t = true) {o : List Int} (ho : o ∈ perm n.toNat n.toNat []) : gapless n t o = okO t o := by
  obtain ⟨h1, h2, h3, h4⟩ := validT_of h
  obtain ⟨hp, hl, _⟩ := perm_mem _ _ o ⟨by simp, by simp⟩ ho
  have hord : isOrd o n = true := by
    refine decide_eq_true ⟨by rw [hl]; simp; omega, fun i hi => ?_⟩
    have := hp.rg _ (nth_mem o i hi)
    refine ⟨this.1, by omega, fun k hk e => ?_⟩
    rw [nth_eq o i hi, nth_eq o k (by omega)] at e
    exact (List.pairwise_iff_getElem.1 hp.nd k i (by omega) hi hk) e.symm
  have herr : runErr n t o = 0 := by unfold runErr; rw [h, hord]; rfl
  have hL : runsL n t o = t.map fun r => ((runsN r o o.length : Nat) : Int) := by unfold runsL; rw [if_pos herr]
  unfold gapless gapsV
  rw [herr, Bool.eq_iff_iff]
  simp only [decide_true, Bool.true_and, decide_eq_true_eq]
  have hg := gapN_zero (l := runsL n t o) (fun x hx => by
    rw [hL] at hx
    simp at hx
    obtain ⟨r, _, rfl⟩ := hx
    omega) (runsL n t o).length (Nat.le_refl _)
  rw [hg.2]
  unfold okO
  rw [decide_eq_true_eq]
  have hlen : (runsL n t o).length = t.length := by rw [hL]; simp
  rw [hlen]
  refine forall_congr' fun i => forall_congr' fun hi => ?_
  have : nth (runsL n t o) i = ((runsN (nth t i) o o.length : Nat) : Int) := by
    rw [nth_eq _ i (by omega), nth_eq t i hi]; simp [hL]
  rw [this]; omega
theorem ords_eq {n : Int} {t : List (List Int)} (h : validT n t = true) : ords n t = allR n t := by
  have h0 := validT_of h
  unfold ords allR
  rw [if_pos h, walks_eq (tabOk h) _ _ _ inv_nil (by simp), lev_eq]
  exact List.filter_congr fun o ho => (gapless_eq h ho).symm
theorem poss_eq : poss = possR := by
  funext n t
  unfold poss possR
  cases h : validT n t with
  | false => rfl
  | true => rw [ords_eq h]
end Go.Proofs.Ytcimlelkeppoiaa

open Go Go.AL Go.RowKit
namespace Go.Proofs.Ytcimlelkeppoiaa
set_option maxRecDepth 20000
def C1 (o r : List Int) : Prop := ∀ x y z, [x, y, z].Sublist o → x ∈ r → z ∈ r → y ∈ r
theorem C1.sub {o o' r : List Int} (h : C1 o r) (hs : o'.Sublist o) : C1 o' r := fun x y z h' => h x y z (h'.trans hs)
theorem sub2 {b : List Int} {i j : Nat} (hij : i < j) (hj : j < b.length) : [nth b i, nth b j].Sublist b := by
  refine List.cons_sublist_iff.2 ⟨b.take j, b.drop j, (List.take_append_drop j b).symm, ?_, List.singleton_sublist.2 ?_⟩
  · rw [nth_eq b i (by omega)]
    exact List.mem_take_iff_getElem.2 ⟨i, by omega, rfl⟩
  · rw [nth_eq b j hj]
    exact List.mem_drop_iff_getElem.2 ⟨0, by omega, rfl⟩
theorem runs_C1 {r o : List Int} (h : runsN r o o.length ≤ 1) : C1 o r := by
  intro x y z hs hx hz
  obtain ⟨a, b, rfl, ha, hs⟩ := List.cons_sublist_iff.1 hs
  obtain ⟨b1, b2, rfl, hb, hs⟩ := List.cons_sublist_iff.1 hs
  have hz' := List.singleton_sublist.1 hs
  obtain ⟨p, hp, rfl⟩ := List.getElem_of_mem ha
  obtain ⟨q, hq, rfl⟩ := List.getElem_of_mem hb
  obtain ⟨s, hs, rfl⟩ := List.getElem_of_mem hz'
  refine Classical.byContradiction fun hy => ?_
  have hl : (a ++ (b1 ++ b2)).length = a.length + (b1.length + b2.length) := by simp
  have e1 : nth (a ++ (b1 ++ b2)) p = a[p] := by rw [nth_eq _ _ (by omega), List.getElem_append_left hp]
  have e2 : nth (a ++ (b1 ++ b2)) (a.length + q) = b1[q] := by
    rw [nth_eq _ _ (by omega), List.getElem_append_right (by omega), List.getElem_append_left (by omega)]; simp
  have e3 : nth (a ++ (b1 ++ b2)) (a.length + b1.length + s) = b2[s] := by
    rw [nth_eq _ _ (by omega), List.getElem_append_right (by omega), List.getElem_append_right (by omega)]
    congr 1; omega
  have hg := runs_gap r (a ++ (b1 ++ b2)) p (a.length + q) (by rw [e1]; exact hx) (by omega) (by rw [e2]; exact hy) (b1.length - q - 1 + s) (by rw [show a.length + q + 1 + (b1.length - q - 1 + s) = a.length + b1.length + s by omega, e3]; exact hz)
  have hm := runs_mono r (a ++ (b1 ++ b2)) ((a ++ (b1 ++ b2)).length - (a.length + b1.length + s + 1)) (a.length + q + 1 + (b1.length - q - 1 + s) + 1)
  rw [show a.length + q + 1 + (b1.length - q - 1 + s) + 1 + ((a ++ (b1 ++ b2)).length - (a.length + b1.length + s + 1)) = (a ++ (b1 ++ b2)).length by omega] at hm
  omega
theorem C1_runs {r : List Int} : ∀ (n : Nat) (o : List Int), o.length = n → C1 o r → runsN r o o.length ≤ 1
  | 0, o, hl, _ => by
    obtain rfl := List.length_eq_zero_iff.1 hl
    simp [runsN]
  | n + 1, o, hl, h => by
    have hne : o ≠ [] := fun e => by subst e; simp at hl
    obtain ⟨b, c, rfl⟩ : ∃ b c, o = b ++ [c] := ⟨o.dropLast, o.getLast hne, (List.dropLast_concat_getLast hne).symm⟩
    have ih := C1_runs n b (by simpa using hl) (h.sub (List.sublist_append_left _ _))
    rw [runs_snoc]
    split
    · rename_i hc
      have hz : runsN r b b.length = 0 := by
        rcases hc.2 with h0 | h0
        · rw [h0]; rfl
        · refine runs_zero r b _ fun j hj hm => ?_
          by_cases e : j = b.length - 1
          · exact h0 (e ▸ hm)
          · have h2 := sub2 (b := b) (i := j) (j := b.length - 1) (by omega) (by omega)
            exact h0 (h _ _ _ (List.Sublist.append h2 (List.Sublist.refl [c])) hm hc.1)
      omega
    · omega
theorem runs_iff {r o : List Int} : runsN r o o.length ≤ 1 ↔ C1 o r := ⟨runs_C1, C1_runs _ o rfl⟩
theorem perm_all {n : Nat} : ∀ (k : Nat) (b o : List Int), Pre n o → b <+: o → o.length = b.length + k → o ∈ perm n k b
  | 0, b, o, _, hp, hl => by
    have := List.IsPrefix.eq_of_length hp (by omega)
    subst this
    simp [perm]
  | k + 1, b, o, ho, hp, hl => by
    simp only [perm, List.mem_flatMap, List.mem_range]
    obtain ⟨s, rfl⟩ := hp
    cases s with
    | nil => simp at hl
    | cons c s =>
      have hc := ho.rg c (by simp)
      have hnd := ho.nd
      rw [List.nodup_append] at hnd
      have hcb : c ∉ b := fun h => hnd.2.2 c h c (by simp) rfl
      have ec : ((c.toNat : Nat) : Int) = c := by omega
      refine ⟨c.toNat, by omega, ?_⟩
      rw [ec, if_neg hcb]
      exact perm_all k (b ++ [c]) _ ho ⟨s, by simp⟩ (by simp at hl ⊢; omega)
def PO (t : List (List Int)) (rows cols : List Int) : Prop := ∃ o : List Int, o.Nodup ∧ (∀ x, x ∈ o ↔ x ∈ cols) ∧ ∀ j ∈ rows, C1 o (nth t j.toNat)
theorem PO.mono {t : List (List Int)} {rows cols rows' cols' : List Int} (h : PO t rows cols) (hr : ∀ j ∈ rows', j ∈ rows) (hc : ∀ j ∈ cols', j ∈ cols) : PO t rows' cols' := by
  obtain ⟨o, h1, h2, h3⟩ := h
  refine ⟨o.filter fun x => decide (x ∈ cols'), h1.sublist List.filter_sublist, fun x => ?_, fun j hj => (h3 j (hr j hj)).sub List.filter_sublist⟩
  simp only [List.mem_filter, decide_eq_true_eq]
  exact ⟨fun h => h.2, fun h => ⟨(h2 x).2 (hc x h), h⟩⟩
theorem mem_upto {n : Nat} {x : Int} : x ∈ upto n ↔ 0 ≤ x ∧ x < n := by
  unfold upto
  simp only [List.mem_map, List.mem_range]
  constructor
  · rintro ⟨k, h, rfl⟩; omega
  · intro h; exact ⟨x.toNat, by omega, by omega⟩
theorem upto_pw (n : Nat) : (upto n).Pairwise (· < ·) := by
  unfold upto
  rw [List.pairwise_map]
  exact List.pairwise_lt_range.imp fun h => by omega
theorem pre_iff {n : Nat} {o : List Int} : (Pre n o ∧ o.length = n) ↔ (o.Nodup ∧ ∀ x, x ∈ o ↔ x ∈ upto n) := by
  constructor
  · rintro ⟨h, hl⟩
    refine ⟨h.nd, fun x => ?_⟩
    rw [mem_upto]
    exact ⟨h.rg x, fun hx => pig_mem h.nd h.rg hl hx.1 hx.2⟩
  · rintro ⟨h1, h2⟩
    refine ⟨⟨h1, fun x hx => mem_upto.1 ((h2 x).1 hx)⟩, ?_⟩
    have := ((List.perm_ext_iff_of_nodup h1 (pw_nodup (upto_pw n))).2 h2).length_eq
    rw [this, upto_len]
theorem possR_PO {n : Int} {t : List (List Int)} (h : validT n t = true) : possR n t = true ↔ PO t (upto t.length) (upto n.toNat) := by
  have hok : ∀ o : List Int, okO t o = true ↔ ∀ j ∈ upto t.length, C1 o (nth t j.toNat) := fun o => by
    unfold okO
    rw [decide_eq_true_eq]
    constructor
    · intro hh j hj
      have hj := mem_upto.1 hj
      exact runs_iff.1 (hh j.toNat (by omega))
    · intro hh i hi
      have := hh i (mem_upto.2 (by omega))
      exact runs_iff.2 (by simpa using this)
  unfold possR
  rw [h, Bool.true_and, Bool.not_eq_true', List.isEmpty_eq_false_iff_exists_mem]
  unfold allR
  rw [lev_eq]
  constructor
  · rintro ⟨o, ho⟩
    rw [List.mem_filter] at ho
    obtain ⟨h1, h2⟩ := ho
    have h2 : okO t o = true := (gapless_eq h h1) ▸ h2
    obtain ⟨hp, hl, _⟩ := perm_mem _ _ o ⟨by simp, by simp⟩ h1
    have := pre_iff.1 ⟨hp, by simpa using hl⟩
    exact ⟨o, this.1, this.2, (hok o).1 h2⟩
  · rintro ⟨o, h1, h2, h3⟩
    obtain ⟨hp, hl⟩ := pre_iff.2 ⟨h1, h2⟩
    have hm : o ∈ perm n.toNat n.toNat [] := perm_all _ _ _ hp List.nil_prefix (by simpa using hl)
    exact ⟨o, List.mem_filter.2 ⟨hm, by rw [gapless_eq h hm]; exact (hok o).2 h3⟩⟩
theorem C1.map {o r r' : List Int} {f : Int → Int} (h : C1 o r) (hf : ∀ x ∈ o, f x ∈ r' ↔ x ∈ r) : C1 (o.map f) r' := by
  intro x y z hs hx hz
  obtain ⟨l, hl, e⟩ := List.sublist_map_iff.1 hs
  match l, e with
  | [a, b, c], e =>
    simp only [List.map_cons, List.map_nil, List.cons.injEq, and_true] at e
    obtain ⟨rfl, rfl, rfl⟩ := e
    have hm := hl.subset
    exact (hf b (hm (by simp))).2 (h a b c hl ((hf a (hm (by simp))).1 hx) ((hf c (hm (by simp))).1 hz))
theorem mem_cutN {r cols : List Int} {x : Int} : x ∈ cutN r cols cols.length ↔ 0 ≤ x ∧ x < cols.length ∧ nth cols x.toNat ∈ r := by
  unfold cutN
  simp only [List.mem_map, List.mem_filter, List.mem_range, decide_eq_true_eq]
  constructor
  · rintro ⟨k, ⟨h1, h2⟩, rfl⟩
    exact ⟨by omega, by omega, by simpa using h2⟩
  · rintro ⟨h1, h2, h3⟩
    exact ⟨x.toNat, ⟨by omega, h3⟩, by omega⟩
theorem nodup_map {o : List Int} {f : Int → Int} (h : o.Nodup) (hf : ∀ a ∈ o, ∀ b ∈ o, f a = f b → a = b) : (o.map f).Nodup := by
  refine List.pairwise_map.2 (List.Pairwise.imp_of_mem ?_ h)
  intro a b ha hb hne e
  exact hne (hf a ha b hb e)
theorem cutT_nth {t : List (List Int)} {rows cols : List Int} {i : Nat} (h : i < rows.length) : nth (cutT t rows cols) i = cutN (nth t (nth rows i).toNat) cols cols.length := by
  rw [nth_eq _ i (by simp [cutT]; exact h), nth_eq rows i h]
  simp [cutT]
theorem nth_inj {l : List Int} (h : l.Nodup) {i j : Nat} (hi : i < l.length) (hj : j < l.length) (e : nth l i = nth l j) : i = j := by
  have h1 := idx_nth h hi
  have h2 := idx_nth h hj
  rw [e] at h1; omega
theorem PO_cut {t : List (List Int)} {rows cols rows' cols' : List Int} (hc : cols.Nodup) (hr' : ∀ i ∈ rows', 0 ≤ i ∧ i < rows.length) (hc' : ∀ i ∈ cols', 0 ≤ i ∧ i < cols.length) :
    PO (cutT t rows cols) rows' cols' ↔ PO t (rows'.map fun i => nth rows i.toNat) (cols'.map fun i => nth cols i.toNat) := by
  constructor
  · rintro ⟨o, h1, h2, h3⟩
    have ho : ∀ x ∈ o, 0 ≤ x ∧ x < cols.length := fun x hx => hc' x ((h2 x).1 hx)
    refine ⟨o.map fun i => nth cols i.toNat, nodup_map h1 fun a ha b hb e => ?_, fun x => ?_, fun j hj => ?_⟩
    · have ha := ho a ha
      have hb := ho b hb
      have := nth_inj hc (by omega) (by omega) e
      omega
    · simp only [List.mem_map]
      exact ⟨fun ⟨a, ha, e⟩ => ⟨a, (h2 a).1 ha, e⟩, fun ⟨a, ha, e⟩ => ⟨a, (h2 a).2 ha, e⟩⟩
    · obtain ⟨i, hi, rfl⟩ := List.mem_map.1 hj
      have hri := hr' i hi
      have h := h3 i hi
      rw [cutT_nth (by omega)] at h
      refine h.map fun x hx => ?_
      have := ho x hx
      rw [mem_cutN]
      exact ⟨fun h => ⟨by omega, by omega, h⟩, fun h => h.2.2⟩
  · rintro ⟨o, h1, h2, h3⟩
    have ho : ∀ x ∈ o, ∃ k : Nat, k < cols.length ∧ x = nth cols k ∧ (k : Int) ∈ cols' := fun x hx => by
      obtain ⟨i, hi, rfl⟩ := List.mem_map.1 ((h2 x).1 hx)
      have := hc' i hi
      refine ⟨i.toNat, by omega, rfl, ?_⟩
      rw [show ((i.toNat : Nat) : Int) = i by omega]; exact hi
    refine ⟨o.map (idx cols), nodup_map h1 fun a ha b hb e => ?_, fun x => ?_, fun j hj => ?_⟩
    · obtain ⟨k, hk, rfl, _⟩ := ho a ha
      obtain ⟨l, hl, rfl, _⟩ := ho b hb
      rw [idx_nth hc hk, idx_nth hc hl] at e
      rw [show k = l by omega]
    · simp only [List.mem_map]
      constructor
      · rintro ⟨a, ha, rfl⟩
        obtain ⟨k, hk, rfl, h⟩ := ho a ha
        rw [idx_nth hc hk]; exact h
      · intro hx
        have hx' := hc' x hx
        refine ⟨nth cols x.toNat, (h2 _).2 (List.mem_map.2 ⟨x, hx, rfl⟩), ?_⟩
        rw [idx_nth hc (by omega)]; omega
    · have hrj := hr' j hj
      rw [cutT_nth (by omega)]
      refine (h3 _ (List.mem_map.2 ⟨j, hj, rfl⟩)).map fun x hx => ?_
      obtain ⟨k, hk, rfl, _⟩ := ho x hx
      rw [mem_cutN, idx_nth hc hk]
      simp only [Int.toNat_natCast]
      exact ⟨fun h => h.2.2, fun h => ⟨by omega, by omega, h⟩⟩
theorem asc_of {l : List Int} {lo hi : Int} (h1 : l.Pairwise (· < ·)) (h2 : ∀ x ∈ l, lo ≤ x ∧ x ≤ hi) : asc l lo hi = true := by
  refine decide_eq_true fun i hi' => ?_
  have := h2 _ (nth_mem l i hi')
  refine ⟨this.1, this.2, fun h0 => ?_⟩
  rw [nth_eq l i hi', nth_eq l (i - 1) (by omega)]
  exact List.pairwise_iff_getElem.1 h1 (i - 1) i (by omega) hi' (by omega)
theorem map_upto (l : List Int) : ((upto l.length).map fun i => nth l i.toNat) = l := by
  refine nth_ext (by simp [upto_len]) fun j hj => ?_
  have hj' : j < l.length := by simpa [upto_len] using hj
  rw [nth_eq _ j hj, nth_eq l j hj']
  simp [upto, nth_eq l j hj']
theorem part_of {n : Int} {t : List (List Int)} {rows cols : List Int} (h : part n t rows cols = true) : asc rows 0 ((t.length : Int) - 1) = true ∧ asc cols 0 (n - 1) = true := by
  simpa [part, Bool.and_eq_true] using h
theorem cutN_pw (r cols : List Int) (k : Nat) : (cutN r cols k).Pairwise (· < ·) := by
  unfold cutN
  rw [List.pairwise_map]
  exact (List.pairwise_lt_range.filter _).imp fun h => by omega
theorem cut_valid {n : Int} {t : List (List Int)} {rows cols : List Int} (hv : validT n t = true) (h : part n t rows cols = true) : validT cols.length (cutT t rows cols) = true := by
  obtain ⟨h1, h2, h3, h4⟩ := validT_of hv
  obtain ⟨p1, p2⟩ := part_of h
  have hrl := asc_len p1
  have hcl := asc_len p2
  refine decide_eq_true ⟨by omega, by omega, by simp [cutT]; omega, fun i hi => ?_⟩
  have hi' : i < rows.length := by simpa [cutT] using hi
  rw [cutT_nth hi']
  refine asc_of (cutN_pw _ _ _) fun x hx => ?_
  have := mem_cutN.1 hx
  omega
theorem obs_iff {n : Int} {t : List (List Int)} (hv : validT n t = true) (rows cols : List Int) : obs possR n t rows cols = true ↔ part n t rows cols = true ∧ ¬ PO t rows cols := by
  unfold obs cutR cutErr
  rw [if_neg (by rw [hv]; simp)]
  cases hp : part n t rows cols with
  | false => simp
  | true =>
    obtain ⟨p1, p2⟩ := part_of hp
    simp only [Bool.true_eq_false, if_false, if_true, decide_true, Bool.true_and, Bool.not_eq_true', true_and]
    rw [← Bool.not_eq_true, possR_PO (cut_valid hv hp), Int.toNat_natCast, PO_cut (pw_nodup (asc_pw p2)) (fun i hi => ?_) (fun i hi => mem_upto.1 hi)]
    · rw [show (cutT t rows cols).length = rows.length by simp [cutT], map_upto, map_upto]
    · have := mem_upto.1 hi
      simp [cutT] at this
      omega
theorem obs_valid {P : Int → List (List Int) → Bool} {n : Int} {t : List (List Int)} {rows cols : List Int} (h : obs P n t rows cols = true) : validT n t = true := by
  unfold obs cutErr at h
  cases hv : validT n t with
  | true => rfl
  | false => simp [hv] at h
theorem part_all {n : Int} {t : List (List Int)} (hv : validT n t = true) : asc (upto t.length) 0 ((t.length : Int) - 1) = true ∧ asc (upto n.toNat) 0 (n - 1) = true := by
  obtain ⟨h1, h2, h3, h4⟩ := validT_of hv
  exact ⟨asc_of (upto_pw _) fun x hx => by have := mem_upto.1 hx; omega, asc_of (upto_pw _) fun x hx => by have := mem_upto.1 hx; omega⟩
theorem part_mk {n : Int} {t : List (List Int)} {rows cols : List Int} (h1 : asc rows 0 ((t.length : Int) - 1) = true) (h2 : asc cols 0 (n - 1) = true) : part n t rows cols = true := by
  unfold part; rw [h1, h2]; rfl
theorem obs_all {n : Int} {t : List (List Int)} (hv : validT n t = true) : obs possR n t (upto t.length) (upto n.toNat) = !possR n t := by
  rw [Bool.eq_iff_iff, obs_iff hv, Bool.not_eq_true', ← Bool.not_eq_true, possR_PO hv]
  have := part_all hv
  exact ⟨fun h => h.2, fun h => ⟨part_mk this.1 this.2, h⟩⟩
theorem asc_mem {l : List Int} {lo hi : Int} (h : asc l lo hi = true) {x : Int} (hx : x ∈ l) : lo ≤ x ∧ x ≤ hi := by
  obtain ⟨j, hj, rfl⟩ := List.getElem_of_mem hx
  rw [← nth_eq l j hj]
  exact asc_rng h j hj
theorem obs_cols {n : Int} {t : List (List Int)} {rows cols : List Int} (h : obs possR n t rows cols = true) : obs possR n t rows (upto n.toNat) = true := by
  have hv := obs_valid h
  obtain ⟨h1, h2⟩ := (obs_iff hv _ _).1 h
  obtain ⟨p1, p2⟩ := part_of h1
  refine (obs_iff hv _ _).2 ⟨part_mk p1 (part_all hv).2, fun hp => h2 (hp.mono (fun _ h => h) fun j hj => mem_upto.2 ?_)⟩
  have := asc_mem p2 hj
  have := (validT_of hv).1
  omega
end Go.Proofs.Ytcimlelkeppoiaa

open Go Go.AL Go.RowKit
namespace Go.Proofs.Ytcimlelkeppoiaa
set_option maxRecDepth 100000
theorem sub_cons {α : Type} {l l' : List α} {a : α} : l.Sublist (a :: l') ↔ l.Sublist l' ∨ ∃ r, l = a :: r ∧ r.Sublist l' := List.sublist_cons_iff
theorem cB_iff (f : Nat → Bool) : ∀ o : List Nat, cB (o.map f) = true ↔ ∀ y z, [y, z].Sublist o → f z = true → f y = true
  | [] => by simp [cB]
  | a :: o => by
    simp only [List.map_cons, cB]
    cases h : f a with
    | true =>
      simp only [cond_true]
      rw [cB_iff f o]
      constructor
      · intro hh y z hs hz
        rcases sub_cons.1 hs with hs | ⟨r, e, hs⟩
        · exact hh y z hs hz
        · cases e; exact h
      · exact fun hh y z hs hz => hh y z (hs.cons a) hz
    | false =>
      simp only [cond_false, List.all_map, List.all_eq_true]
      constructor
      · intro hh y z hs hz
        have hz' : z ∈ o := by
          rcases sub_cons.1 hs with hs | ⟨r, e, hs⟩
          · exact hs.subset (by simp)
          · cases e; exact hs.subset (by simp)
        have := hh z hz'
        simp [hz] at this
      · intro hh z hz
        cases hfz : f z with
        | true =>
          have := hh a z (List.Sublist.cons_cons a (List.singleton_sublist.2 hz)) hfz
          rw [h] at this; cases this
        | false => simp [hfz]
theorem cA_iff (f : Nat → Bool) : ∀ o : List Nat, cA (o.map f) = true ↔ ∀ x y z, [x, y, z].Sublist o → f x = true → f z = true → f y = true
  | [] => by simp [cA]
  | a :: o => by
    simp only [List.map_cons, cA]
    cases h : f a with
    | true =>
      simp only [cond_true]
      rw [cB_iff f o]
      constructor
      · intro hh x y z hs _ hz
        rcases sub_cons.1 hs with hs | ⟨r, e, hs⟩
        · exact hh y z ((List.sublist_cons_self x [y, z]).trans hs) hz
        · cases e; exact hh y z hs hz
      · exact fun hh y z hs hz => hh a y z (List.Sublist.cons_cons a hs) h hz
    | false =>
      simp only [cond_false]
      rw [cA_iff f o]
      constructor
      · intro hh x y z hs hx hz
        rcases sub_cons.1 hs with hs | ⟨r, e, hs⟩
        · exact hh x y z hs hx hz
        · cases e; rw [h] at hx; cases hx
      · exact fun hh x y z hs hx hz => hh x y z (hs.cons a) hx hz
def toI (l : List Nat) : List Int := l.map fun (x : Nat) => (x : Int)
def toN (l : List Int) : List Nat := l.map Int.toNat
theorem toI_mem {x : Nat} {l : List Nat} : (x : Int) ∈ toI l ↔ x ∈ l := by
  unfold toI
  rw [List.mem_map]
  exact ⟨fun ⟨y, hy, e⟩ => by have : y = x := by omega
                              exact this ▸ hy, fun h => ⟨x, h, rfl⟩⟩
theorem toI_toN {l : List Int} (h : ∀ x ∈ l, 0 ≤ x) : toI (toN l) = l := by
  unfold toI toN
  rw [List.map_map]
  have : l.map ((fun (x : Nat) => (x : Int)) ∘ Int.toNat) = l.map id := List.map_congr_left fun x hx => by
    have := h x hx
    show ((x.toNat : Nat) : Int) = x
    omega
  rw [this, List.map_id]
theorem con_C1 {r o : List Nat} : con (inR r) o = true ↔ C1 (toI o) (toI r) := by
  unfold con
  rw [cA_iff]
  constructor
  · intro h x y z hs hx hz
    obtain ⟨l, hl, e⟩ := List.sublist_map_iff.1 hs
    match l, e, hl with
    | [a, b, c], e, hl =>
      simp only [List.map_cons, List.map_nil, List.cons.injEq, and_true] at e
      obtain ⟨rfl, rfl, rfl⟩ := e
      exact toI_mem.2 (of_decide_eq_true (h a b c hl (decide_eq_true (toI_mem.1 hx)) (decide_eq_true (toI_mem.1 hz))))
    | [], e, _ => cases e
    | [_], e, _ => cases e
    | [_, _], e, _ => cases e
    | _ :: _ :: _ :: _ :: _, e, _ => cases e
  · intro h x y z hs hx hz
    exact decide_eq_true (toI_mem.1 (h x y z (hs.map fun (x : Nat) => (x : Int)) (toI_mem.2 (of_decide_eq_true hx)) (toI_mem.2 (of_decide_eq_true hz))))
def ordN (n : Nat) (o : List Nat) : Prop := o.Nodup ∧ ∀ x, x ∈ o ↔ x < n
theorem ordN_perm {n : Nat} {o : List Nat} (h : ordN n o) : toI o ∈ perm n n [] := by
  have : Pre n (toI o) ∧ (toI o).length = n := pre_iff.2 ⟨h.1.map _ (fun a b hab e => hab (by omega)), fun x => by
    rw [mem_upto]
    constructor
    · intro hx
      obtain ⟨y, hy, rfl⟩ := List.mem_map.1 hx
      have := (h.2 y).1 hy
      omega
    · rintro ⟨h0, h1⟩
      have : x = ((x.toNat : Nat) : Int) := by omega
      rw [this]
      exact toI_mem.2 ((h.2 _).2 (by omega))⟩
  exact perm_all n [] _ this.1 (List.nil_prefix) (by rw [this.2]; simp)
def rootE (n : Nat) (T : N) : Bool := (frs T).all fun o => decide (o.Nodup ∧ (∀ x ∈ o, x < n) ∧ ∀ x ∈ List.range n, x ∈ o)
def rootA (n : Nat) (T : N) : Bool := (perm n n []).all fun o => (frs T).contains (toN o)
theorem root_of {n : Nat} {T : N} (hs : T ∈ shp n) (hm : beqN T (mapN (ren (List.range n)) T) = true) (he : rootE n T = true) (ha : rootA n T = true) : RI n (ordN n) [] T where
  shape := ⟨T, hs, List.range n, ⟨by simp, fun x hx => List.mem_range.1 hx, fun x hx => List.mem_range.2 hx⟩, beqN_eq hm⟩
  iff o := by
    constructor
    · intro ho
      have := of_decide_eq_true (List.all_eq_true.1 he o ho)
      exact ⟨⟨this.1, fun x => ⟨this.2.1 x, fun hx => this.2.2 x (List.mem_range.2 hx)⟩⟩, fun r hr => by simp at hr⟩
    · rintro ⟨h, _⟩
      have := List.all_eq_true.1 ha _ (ordN_perm h)
      have e : toN (toI o) = o := by unfold toN toI; rw [List.map_map]; exact (List.map_congr_left fun x _ => rfl).trans (List.map_id _)
      rw [e] at this
      simpa using this
theorem root {n : Nat} (h1 : 1 ≤ n) (h5 : n ≤ 5) : ∃ T, grp (lvs n) = some T ∧ RI n (ordN n) [] T := by
  rcases (by omega : n = 1 ∨ n = 2 ∨ n = 3 ∨ n = 4 ∨ n = 5) with rfl | rfl | rfl | rfl | rfl
  · exact ⟨a0, rfl, root_of (by simp [shp, sh1]) (by decide +kernel) (by decide +kernel) (by decide +kernel)⟩
  · exact ⟨P [a0, a1], rfl, root_of (by simp [shp, sh2]) (by decide +kernel) (by decide +kernel) (by decide +kernel)⟩
  · exact ⟨P [a0, a1, a2], rfl, root_of (by simp [shp, sh3]) (by decide +kernel) (by decide +kernel) (by decide +kernel)⟩
  · exact ⟨P [a0, a1, a2, a3], rfl, root_of (by simp [shp, sh4]) (by decide +kernel) (by decide +kernel) (by decide +kernel)⟩
  · exact ⟨P [a0, a1, a2, a3, a4], rfl, root_of (by simp [shp, sh5]) (by decide +kernel) (by decide +kernel) (by decide +kernel)⟩
structure LI (n : Nat) (t : List (List Nat)) (i : Nat) (fine : Bool) (T : N) : Prop where
  ri : ∃ acc, (∀ r ∈ acc, r ∈ t) ∧ RI n (ordN n) acc T ∧ (fine = true → ∀ j, j < i → j < t.length → nth t j ≠ [] → nth t j ∈ acc)
  no : fine = false → ∀ o, ordN n o → ¬ ∀ r ∈ t, con (inR r) o = true
theorem LI.skip {n : Nat} {t : List (List Nat)} {i : Nat} {fine : Bool} {T : N} (h : LI n t i fine T) (h0 : nth t i = []) : LI n t (i + 1) fine T where
  ri := by
    obtain ⟨acc, a1, a2, a3⟩ := h.ri
    refine ⟨acc, a1, a2, fun hf j hj hl hne => ?_⟩
    rcases Nat.lt_succ_iff_lt_or_eq.1 hj with h | rfl
    · exact a3 hf j h hl hne
    · exact absurd h0 hne
  no := h.no
theorem LI.row {n : Nat} (h1 : 1 ≤ n) (h5 : n ≤ 5) {t : List (List Nat)} {i : Nat} (hi : i < t.length) {fine : Bool} {T : N} (h : LI n t i fine T) (hlt : ∀ x ∈ nth t i, x < n) (h0 : nth t i ≠ []) :
    (Sm T ∧ sz T ≤ 100 ∧ st (inR (nth t i)) T ≠ 0) ∧ (red (inR (nth t i)) T = none → LI n t (i + 1) false T) ∧ ∀ T1, red (inR (nth t i)) T = some T1 → LI n t (i + 1) fine T1 := by
  obtain ⟨acc, a1, a2, a3⟩ := h.ri
  obtain ⟨b1, b2, b3⟩ := a2.step h1 h5 hlt h0
  have hm : nth t i ∈ t := by rw [nth_eq t i hi]; exact List.getElem_mem hi
  refine ⟨⟨(a2.small h1 h5).1, (a2.small h1 h5).2, b1⟩, fun hn => ?_, fun T1 hT => ?_⟩
  · refine ⟨⟨acc, a1, a2, fun hf => by cases hf⟩, fun _ o ho ha => ?_⟩
    have := b2 hn o ho fun r hr => ha r (a1 r hr)
    rw [ha _ hm] at this; cases this
  · refine ⟨⟨acc ++ [nth t i], fun r hr => ?_, b3 T1 hT, fun hf j hj hl hne => ?_⟩, h.no⟩
    · rcases List.mem_append.1 hr with hr | hr
      · exact a1 r hr
      · rw [List.mem_singleton.1 hr]; exact hm
    · rcases Nat.lt_succ_iff_lt_or_eq.1 hj with h | rfl
      · exact List.mem_append_left _ (a3 hf j h hl hne)
      · simp
theorem con_nil (o : List Nat) : con (inR []) o = true := by
  unfold con
  rw [cA_iff]
  intro x y z _ hx _
  exact absurd (of_decide_eq_true hx) (by simp)
theorem LI.fin {n : Nat} (h1 : 1 ≤ n) (h5 : n ≤ 5) {t : List (List Nat)} {fine : Bool} {T : N} (h : LI n t t.length fine T) : fine = true ↔ ∃ o, ordN n o ∧ ∀ r ∈ t, con (inR r) o = true := by
  constructor
  · intro hf
    obtain ⟨acc, a1, a2, a3⟩ := h.ri
    obtain ⟨o, ho, ha⟩ := a2.some h1 h5
    refine ⟨o, ho, fun r hr => ?_⟩
    obtain ⟨j, hj, rfl⟩ := List.getElem_of_mem hr
    by_cases e : t[j] = []
    · rw [e]; exact con_nil o
    · have := a3 hf j hj hj (by rw [nth_eq t j hj]; exact e)
      rw [nth_eq t j hj] at this
      exact ha _ this
  · rintro ⟨o, ho, ha⟩
    cases fine with
    | true => rfl
    | false => exact absurd ha (h.no rfl o ho)
theorem LI.nil {n : Nat} {t : List (List Nat)} {T : N} (h : RI n (ordN n) [] T) : LI n t 0 true T where
  ri := ⟨[], fun r hr => by simp at hr, h, fun _ j hj => by omega⟩
  no := fun h => by cases h
theorem poss_ord {n : Int} {t : List (List Int)} (h : validT n t = true) : possR n t = true ↔ ∃ o, ordN n.toNat o ∧ ∀ r ∈ t.map toN, con (inR r) o = true := by
  have hv := of_decide_eq_true h
  have hrow : ∀ r ∈ t, ∀ x ∈ r, 0 ≤ x := fun r hr x hx => by
    obtain ⟨i, hi, rfl⟩ := List.getElem_of_mem hr
    have := hv.2.2.2 i hi
    rw [nth_eq t i hi] at this
    exact (asc_mem this hx).1
  rw [possR_PO h]
  constructor
  · rintro ⟨o, o1, o2, o3⟩
    have hpos : ∀ x ∈ o, 0 ≤ x := fun x hx => (mem_upto.1 ((o2 x).1 hx)).1
    refine ⟨toN o, ⟨?_, fun x => ?_⟩, fun r hr => ?_⟩
    · have := o1
      rw [← toI_toN hpos] at this
      exact List.Pairwise.of_map (fun (x : Nat) => (x : Int)) (fun a b hab e => hab (by rw [e])) this
    · rw [← toI_mem, toI_toN hpos, o2, mem_upto]; omega
    · obtain ⟨r, hr', rfl⟩ := List.mem_map.1 hr
      rw [con_C1, toI_toN hpos, toI_toN (hrow r hr')]
      obtain ⟨i, hi, rfl⟩ := List.getElem_of_mem hr'
      have := o3 (i : Int) (mem_upto.2 ⟨by omega, by omega⟩)
      rw [Int.toNat_natCast, nth_eq t i hi] at this
      exact this
  · rintro ⟨o, ho, ha⟩
    refine ⟨toI o, ho.1.map _ (fun a b hab e => hab (by omega)), fun x => ?_, fun j hj => ?_⟩
    · rw [mem_upto]
      constructor
      · intro hx
        obtain ⟨y, hy, rfl⟩ := List.mem_map.1 hx
        have := (ho.2 y).1 hy
        omega
      · rintro ⟨h0, h1⟩
        have : x = ((x.toNat : Nat) : Int) := by omega
        rw [this]
        exact toI_mem.2 ((ho.2 _).2 (by omega))
    · have hj' := mem_upto.1 hj
      have hi : j.toNat < t.length := by omega
      rw [nth_eq t _ hi]
      have := con_C1.1 (ha (toN t[j.toNat]) (List.mem_map.2 ⟨_, List.getElem_mem hi, rfl⟩))
      rwa [toI_toN (hrow _ (List.getElem_mem hi))] at this
end Go.Proofs.Ytcimlelkeppoiaa

