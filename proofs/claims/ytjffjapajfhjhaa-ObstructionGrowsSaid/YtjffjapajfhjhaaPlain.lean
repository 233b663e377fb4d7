/-
  Lemmas for the proof: no statement of its own.
-/
import Derived.Test.YtjffjapajfhjhaaWalkC
set_option linter.unusedVariables false
set_option linter.unusedSimpArgs false
open Go Go.AL Go.RowKit
namespace Go.Proofs.Ytjffjapajfhjhaa
set_option maxRecDepth 20000

/-! ### PLAIN: the walk makes the orders without gaps -/
theorem pig : ∀ (n : Nat) (l : List Int), l.Nodup → (∀ x ∈ l, 0 ≤ x ∧ x < n) → l.length ≤ n
  | 0, l, _, h => by
    cases l with
    | nil => simp
    | cons a r => have := h a (by simp); omega
  | n + 1, l, hn, h => by
    have h1 := pig n (l.erase (n : Int)) (hn.erase _) (fun x hx => by
      have h2 := h x (List.mem_of_mem_erase hx)
      have h3 : x ≠ (n : Int) := fun e => by subst e; exact (hn.not_mem_erase) hx
      omega)
    have := List.le_length_erase (a := (n : Int)) (l := l)
    omega
theorem pig_mem {n : Nat} {l : List Int} (hn : l.Nodup) (h : ∀ x ∈ l, 0 ≤ x ∧ x < n) (hl : l.length = n) {c : Int} (h0 : 0 ≤ c) (h1 : c < n) : c ∈ l := by
  by_cases hc : c ∈ l
  · exact hc
  · have := pig n (c :: l) (List.nodup_cons.2 ⟨hc, hn⟩) (fun x hx => by
      rcases List.mem_cons.1 hx with rfl | hx
      · exact ⟨h0, h1⟩
      · exact h x hx)
    simp at this; omega

/-- all completions -/
def perm (n : Nat) : Nat → List Int → List (List Int)
  | 0, b => [b]
  | k + 1, b => (List.range n).flatMap fun (c : Nat) => if (c : Int) ∈ b then [] else perm n k (b ++ [(c : Int)])
theorem fm_filter {f : List Int → List (List Int)} (b : List Int) : ∀ l : List Nat, ((l.filter fun (v : Nat) => decide ((v : Int) ∉ b)).map fun (v : Nat) => b ++ [(v : Int)]).flatMap f = l.flatMap fun (c : Nat) => if (c : Int) ∈ b then [] else f (b ++ [(c : Int)])
  | [] => rfl
  | v :: l => by
    have ih := fm_filter (f := f) b l
    by_cases h : (v : Int) ∈ b
    · rw [List.filter_cons_of_neg (by simpa using h), List.flatMap_cons, if_pos h, List.nil_append]; exact ih
    · rw [List.filter_cons_of_pos (by simpa using h), List.map_cons, List.flatMap_cons, List.flatMap_cons, if_neg h, ih]
theorem perm_succ (n k : Nat) (b : List Int) : perm n (k + 1) b = (extN n b).flatMap (perm n k) := (fm_filter b (List.range n)).symm
theorem lev_perm (n : Nat) : ∀ k j, (lev n j).flatMap (perm n k) = lev n (j + k)
  | 0, j => by
    have : (perm n 0) = fun b => [b] := rfl
    rw [this]
    simp
  | k + 1, j => by
    have e : perm n (k + 1) = fun b => (extN n b).flatMap (perm n k) := funext fun b => perm_succ n k b
    rw [e, ← List.flatMap_assoc]
    have := lev_perm n k (j + 1)
    simp only [lev] at this
    rw [this]; congr 1; omega
theorem lev_eq (n k : Nat) : lev n k = perm n k [] := by
  have := lev_perm n k 0
  simpa [lev] using this.symm
structure Pre (n : Nat) (b : List Int) : Prop where
  nd : b.Nodup
  rg : ∀ x ∈ b, 0 ≤ x ∧ x < (n : Int)
theorem Pre.snoc {n : Nat} {b : List Int} (h : Pre n b) {c : Nat} (hc : c < n) (hb : (c : Int) ∉ b) : Pre n (b ++ [(c : Int)]) where
  nd := by
    rw [List.nodup_append]
    exact ⟨h.nd, by simp, fun a ha x hx => by simp at hx; subst hx; exact fun e => hb (e ▸ ha)⟩
  rg := fun x hx => by
    rcases List.mem_append.1 hx with hx | hx
    · exact h.rg x hx
    · simp at hx; subst hx; omega
theorem perm_mem {n : Nat} : ∀ (k : Nat) (b o : List Int), Pre n b → o ∈ perm n k b → Pre n o ∧ o.length = b.length + k ∧ b <+: o
  | 0, b, o, hp, h => by
    simp only [perm, List.mem_singleton] at h
    subst h
    exact ⟨hp, by simp, List.prefix_refl _⟩
  | k + 1, b, o, hp, h => by
    simp only [perm, List.mem_flatMap, List.mem_range] at h
    obtain ⟨c, hc, h⟩ := h
    split at h
    · simp at h
    · rename_i hb
      obtain ⟨h1, h2, h3⟩ := perm_mem k _ o (hp.snoc hc hb) h
      refine ⟨h1, by rw [h2]; simp; omega, (List.prefix_append b _).trans h3⟩
theorem nth_pre {b o : List Int} (h : b <+: o) {i : Nat} (hi : i < b.length) : nth o i = nth b i := by
  obtain ⟨z, rfl⟩ := h
  rw [nth_eq _ i (by simp; omega), nth_eq b i hi, List.getElem_append_left hi]

/-! runs -/
theorem runs_pre (r : List Int) {b o : List Int} (h : b <+: o) : ∀ k, k ≤ b.length → runsN r o k = runsN r b k
  | 0, _ => rfl
  | k + 1, hk => by
    simp only [runsN]
    rw [runs_pre r h k (by omega), nth_pre h (by omega)]
    rcases Nat.eq_zero_or_pos k with rfl | h0
    · simp
    · rw [nth_pre h (by omega : k - 1 < b.length)]
theorem runs_mono (r o : List Int) : ∀ d k, runsN r o k ≤ runsN r o (k + d)
  | 0, k => Nat.le_refl _
  | d + 1, k => by
    have := runs_mono r o d k
    rw [← Nat.add_assoc]
    simp only [runsN]
    omega
theorem runs_pos (r o : List Int) : ∀ k p, p < k → nth o p ∈ r → 1 ≤ runsN r o k
  | 0, p, h, _ => by omega
  | k + 1, p, h, hp => by
    simp only [runsN]
    rcases Nat.lt_succ_iff_lt_or_eq.1 h with h' | rfl
    · have := runs_pos r o k p h' hp; omega
    · by_cases h0 : p = 0
      · rw [if_pos ⟨hp, .inl h0⟩]; omega
      · by_cases h1 : nth o (p - 1) ∈ r
        · have := runs_pos r o p (p - 1) (by omega) h1; omega
        · rw [if_pos ⟨hp, .inr h1⟩]; omega
theorem runs_zero (r o : List Int) : ∀ k, (∀ j, j < k → nth o j ∉ r) → runsN r o k = 0
  | 0, _ => rfl
  | k + 1, h => by
    simp only [runsN]
    rw [runs_zero r o k (fun j hj => h j (by omega)), if_neg (fun h' => h k (by omega) h'.1)]
/-- a gap: two runs -/
theorem runs_gap (r o : List Int) (p q : Nat) (hp : nth o p ∈ r) (hpq : p < q) (hq : nth o q ∉ r) : ∀ d, nth o (q + 1 + d) ∈ r → 2 ≤ runsN r o (q + 1 + d + 1)
  | 0, hs => by
    have h1 := runs_pos r o (q + 1) p (by omega) hp
    simp only [runsN, Nat.add_zero] at h1 ⊢
    have : ¬ (nth o q ∈ r ∧ (q = 0 ∨ nth o (q - 1) ∉ r)) := fun h => hq h.1
    rw [if_neg this] at h1 ⊢
    have h2 : nth o (q + 1) ∈ r ∧ (q + 1 = 0 ∨ nth o (q + 1 - 1) ∉ r) := ⟨by simpa using hs, .inr (by simpa using hq)⟩
    rw [if_pos h2]; omega
  | d + 1, hs => by
    by_cases h : nth o (q + 1 + d) ∈ r
    · have := runs_gap r o p q hp hpq hq d h
      have h2 := runs_mono r o 1 (q + 1 + d + 1)
      rw [show q + 1 + (d + 1) + 1 = q + 1 + d + 1 + 1 by omega]
      omega
    · have h1 := runs_pos r o (q + 1 + d + 1) p (by omega) hp
      rw [show q + 1 + (d + 1) + 1 = (q + 1 + d + 1) + 1 by omega, runsN]
      rw [show q + 1 + (d + 1) = q + 1 + d + 1 by omega] at hs
      rw [if_pos ⟨hs, .inr (by simpa using h)⟩]; omega
theorem runs_snoc (r b : List Int) (c : Int) : runsN r (b ++ [c]) (b ++ [c]).length = runsN r b b.length + if c ∈ r ∧ (b.length = 0 ∨ nth b (b.length - 1) ∉ r) then 1 else 0 := by
  have hp : b <+: b ++ [c] := List.prefix_append _ _
  rw [List.length_append, List.length_singleton, runsN, runs_pre r hp _ (Nat.le_refl _)]
  have e1 : nth (b ++ [c]) b.length = c := by rw [nth_eq _ _ (by simp)]; simp
  rw [e1]
  rcases Nat.eq_zero_or_pos b.length with h0 | h0
  · simp [h0]
  · rw [nth_pre hp (by omega : b.length - 1 < b.length)]
end Go.Proofs.Ytjffjapajfhjhaa

open Go Go.AL Go.RowKit
namespace Go.Proofs.Ytjffjapajfhjhaa
set_option maxRecDepth 20000

def okO (t : List (List Int)) (o : List Int) : Bool := decide (∀ i, i < t.length → runsN (nth t i) o o.length ≤ 1)
structure TabOk (n : Nat) (t : List (List Int)) : Prop where
  nd : ∀ i, i < t.length → (nth t i).Nodup
  rg : ∀ i, i < t.length → ∀ x ∈ nth t i, 0 ≤ x ∧ x < (n : Int)
structure Inv (n : Nat) (t : List (List Int)) (b left : List Int) : Prop where
  pre : Pre n b
  ll : left.length = t.length
  cnt : ∀ i, i < t.length → nth left i = (((nth t i).filter fun x => decide (x ∉ b)).length : Int)
  one : ∀ i, i < t.length → runsN (nth t i) b b.length ≤ 1
  lst : ∀ i, i < t.length → 0 < nth left i → nth left i < (nth t i).length → b.length ≠ 0 ∧ nth b (b.length - 1) ∈ nth t i
theorem cnt_in {c : Int} {b : List Int} (hb : c ∉ b) : ∀ r : List Int, r.Nodup → c ∈ r → (r.filter fun x => decide (x ∉ b ++ [c])).length + 1 = (r.filter fun x => decide (x ∉ b)).length
  | [], _, h => by simp at h
  | x :: r, hn, h => by
    rw [List.nodup_cons] at hn
    by_cases e : x = c
    · subst e
      have e2 : (r.filter fun y => decide (y ∉ b ++ [x])) = r.filter fun y => decide (y ∉ b) := List.filter_congr fun y hy => by
        have : y ≠ x := fun e => hn.1 (e ▸ hy)
        simp [this]
      rw [List.filter_cons_of_neg (by simp), e2, List.filter_cons_of_pos (by simpa using hb)]
      simp
    · have hr : c ∈ r := by
        rcases List.mem_cons.1 h with e' | h
        · exact absurd e'.symm e
        · exact h
      have ih := cnt_in hb r hn.2 hr
      by_cases hx : x ∈ b
      · rw [List.filter_cons_of_neg (by simp [hx]), List.filter_cons_of_neg (by simpa using hx)]; exact ih
      · rw [List.filter_cons_of_pos (by simp [hx, e]), List.filter_cons_of_pos (by simpa using hx), List.length_cons, List.length_cons]; omega
theorem cnt_out {c : Int} {b r : List Int} (h : c ∉ r) : (r.filter fun x => decide (x ∉ b ++ [c])) = r.filter fun x => decide (x ∉ b) := List.filter_congr fun y hy => by
  have : y ≠ c := fun e => h (e ▸ hy)
  simp [this]
theorem cnt_lt {b r : List Int} (h : (r.filter fun x => decide (x ∉ b)).length < r.length) : ∃ x ∈ r, x ∈ b := by
  refine Classical.byContradiction fun hn => ?_
  have : (r.filter fun x => decide (x ∉ b)) = r := List.filter_eq_self.2 fun x hx => by
    have : x ∉ b := fun hb => hn ⟨x, hx, hb⟩
    simpa using this
  rw [this] at h; omega
theorem cnt_pos {b r : List Int} (h : 0 < (r.filter fun x => decide (x ∉ b)).length) : ∃ x ∈ r, x ∉ b := by
  obtain ⟨x, hx⟩ := List.exists_mem_of_length_pos h
  rw [List.mem_filter] at hx
  exact ⟨x, hx.1, by simpa using hx.2⟩
theorem cnt_le (b r : List Int) : (r.filter fun x => decide (x ∉ b)).length ≤ r.length := List.length_filter_le _ _
theorem fm_congr {f g : Nat → List (List Int)} : ∀ {l : List Nat}, (∀ c ∈ l, f c = g c) → l.flatMap f = l.flatMap g
  | [], _ => rfl
  | c :: l, h => by rw [List.flatMap_cons, List.flatMap_cons, h c (by simp), fm_congr fun d hd => h d (List.mem_cons_of_mem _ hd)]
theorem fits_iff {t : List (List Int)} {left : List Int} {c : Int} : fitsB t left c t.length = true ↔ ∀ i, i < t.length → c ∉ nth t i → ¬ (0 < nth left i ∧ nth left i < (nth t i).length) := by
  unfold fitsB; rw [decide_eq_true_eq]
theorem inv_snoc {n : Nat} {t : List (List Int)} {b left : List Int} (hT : TabOk n t) (h : Inv n t b left) {c : Nat} (hc : c < n) (hb : (c : Int) ∉ b) (hf : fitsB t left c t.length = true) : Inv n t (b ++ [(c : Int)]) (nextL t left c t.length) := by
  rw [fits_iff] at hf
  have hll := h.ll
  have hnx : ∀ i, i < t.length → nth (nextL t left c t.length) i = if (c : Int) ∈ nth t i then nth left i - 1 else nth left i := fun i hi => by
    rw [nextL_nth t left c _ i (by omega)]; simp [hi]
  have hlast : nth (b ++ [(c : Int)]) ((b ++ [(c : Int)]).length - 1) = c := by
    rw [nth_eq _ _ (by simp)]; simp
  refine ⟨h.pre.snoc hc hb, by rw [nextL_len]; exact hll, fun i hi => ?_, fun i hi => ?_, fun i hi h0 h1 => ?_⟩
  · rw [hnx i hi, h.cnt i hi]
    by_cases hr : (c : Int) ∈ nth t i
    · have := cnt_in hb _ (hT.nd i hi) hr
      rw [if_pos hr]; omega
    · rw [if_neg hr, cnt_out hr]
  · rw [runs_snoc]
    have h1 := h.one i hi
    by_cases hs : (c : Int) ∈ nth t i ∧ (b.length = 0 ∨ nth b (b.length - 1) ∉ nth t i)
    · rw [if_pos hs]
      have hcn := h.cnt i hi
      have hle := cnt_le b (nth t i)
      have hin := cnt_in hb _ (hT.nd i hi) hs.1
      have : runsN (nth t i) b b.length = 0 := by
        refine runs_zero _ _ _ fun j hj hm => ?_
        have hlt : ((nth t i).filter fun x => decide (x ∉ b)).length < (nth t i).length := by
          rcases Nat.lt_or_eq_of_le hle with h' | h'
          · exact h'
          · exfalso
            have := List.length_filter_eq_length_iff.1 h' _ hm
            simp at this
            exact this (nth_mem b j hj)
        obtain ⟨q1, q2⟩ := h.lst i hi (by omega) (by omega)
        rcases hs.2 with h' | h'
        · exact q1 h'
        · exact h' q2
      omega
    · rw [if_neg hs]; omega
  · rw [hlast]
    refine ⟨by simp, ?_⟩
    by_cases hr : (c : Int) ∈ nth t i
    · exact hr
    · rw [hnx i hi, if_neg hr] at h0 h1
      exact absurd ⟨h0, h1⟩ (hf i hi hr)
theorem nofit {n k : Nat} {t : List (List Int)} {b left : List Int} (hT : TabOk n t) (h : Inv n t b left) {c : Nat} (hc : c < n) (hb : (c : Int) ∉ b) (hk : b.length + (k + 1) = n) (hf : fitsB t left c t.length = false) : (perm n k (b ++ [(c : Int)])).filter (okO t) = [] := by
  rw [List.filter_eq_nil_iff]
  intro o ho hok
  obtain ⟨hp, hl, hpr⟩ := perm_mem k _ o (h.pre.snoc hc hb) ho
  have hf' : ¬ ∀ i, i < t.length → (c : Int) ∉ nth t i → ¬ (0 < nth left i ∧ nth left i < (nth t i).length) := fun h' => by
    rw [fits_iff.2 h'] at hf; cases hf
  refine hf' fun i hi hcr ⟨h0, h1⟩ => ?_
  have hcn := h.cnt i hi
  obtain ⟨x, hx, hxb⟩ := cnt_lt (b := b) (r := nth t i) (by omega)
  obtain ⟨y, hy, hyb⟩ := cnt_pos (b := b) (r := nth t i) (by omega)
  have hol : o.length = n := by rw [hl]; simp; omega
  have hyr := hT.rg i hi y hy
  have hyo := pig_mem hp.nd hp.rg hol hyr.1 hyr.2
  obtain ⟨p, hpl, rfl⟩ := List.getElem_of_mem hxb
  obtain ⟨s, hsl, rfl⟩ := List.getElem_of_mem hyo
  have ep : nth o p = b[p] := by rw [nth_pre hpr (by simp; omega), nth_eq _ _ (by simp; omega), List.getElem_append_left hpl]
  have eq : nth o b.length = c := by rw [nth_pre hpr (by simp), nth_eq _ _ (by simp)]; simp
  have es : nth o s = o[s] := nth_eq o s hsl
  have hs1 : b.length < s := by
    rcases Nat.lt_trichotomy s b.length with h' | h' | h'
    · exfalso
      have : o[s] = b[s] := by rw [← nth_eq o s hsl, nth_pre hpr (by simp; omega), nth_eq _ _ (by simp; omega), List.getElem_append_left h']
      rw [this] at hyb
      exact hyb (by simp)
    · exfalso
      subst h'
      rw [← es, eq] at hy
      exact hcr hy
    · exact h'
  have hg := runs_gap (nth t i) o p b.length (by rw [ep]; exact hx) hpl (by rw [eq]; exact hcr) (s - b.length - 1) (by rw [show b.length + 1 + (s - b.length - 1) = s by omega, es]; exact hy)
  rw [show b.length + 1 + (s - b.length - 1) + 1 = s + 1 by omega] at hg
  have hm := runs_mono (nth t i) o (o.length - (s + 1)) (s + 1)
  rw [show s + 1 + (o.length - (s + 1)) = o.length by omega] at hm
  have := of_decide_eq_true hok i hi
  omega
theorem walks_eq {n : Nat} {t : List (List Int)} (hT : TabOk n t) : ∀ (k : Nat) (b left : List Int), Inv n t b left → b.length + k = n → walks n t k b left = (perm n k b).filter (okO t)
  | 0, b, left, h, hk => by
    simp only [walks, perm]
    rw [List.filter_cons_of_pos]
    · rfl
    · exact decide_eq_true h.one
  | k + 1, b, left, h, hk => by
    rw [walks_succ]
    simp only [perm]
    rw [List.filter_flatMap]
    refine fm_congr fun c hc => ?_
    have hc := List.mem_range.1 hc
    unfold br
    by_cases hb : (c : Int) ∈ b
    · rw [if_pos (.inl hb), if_pos hb]; rfl
    · rw [if_neg hb]
      cases hf : fitsB t left c t.length with
      | false => rw [if_pos (.inr rfl), nofit hT h hc hb hk hf]
      | true =>
        rw [if_neg (by simp [hb])]
        exact walks_eq hT k _ _ (inv_snoc hT h hc hb hf) (by simp; omega)
theorem tabOk {n : Int} {t : List (List Int)} (h : validT n t = true) : TabOk n.toNat t := by
  obtain ⟨h1, h2, h3, h4⟩ := validT_of h
  refine ⟨fun i hi => pw_nodup (asc_pw (h4 i hi)), fun i hi x hx => ?_⟩
  obtain ⟨j, hj, rfl⟩ := List.getElem_of_mem hx
  have := asc_rng (h4 i hi) j hj
  rw [nth_eq _ j hj] at this
  omega
theorem inv_nil {n : Nat} {t : List (List Int)} : Inv n t [] (t.map fun r => (r.length : Int)) := by
  have hn : ∀ i, i < t.length → nth (t.map fun r => (r.length : Int)) i = ((nth t i).length : Int) := fun i hi => by
    rw [nth_eq _ i (by simpa using hi), nth_eq _ i hi]; simp
  refine ⟨⟨by simp, by simp⟩, by simp, fun i hi => ?_, fun i hi => by simp [runsN], fun i hi _ h1 => ?_⟩
  · rw [hn i hi]
    have : ((nth t i).filter fun x => decide (x ∉ ([] : List Int))) = nth t i := List.filter_eq_self.2 (by simp)
    rw [this]
  · rw [hn i hi] at h1; omega
theorem gapN_zero {l : List Int} (h : ∀ x ∈ l, 0 ≤ x) : ∀ k, k ≤ l.length → (0 ≤ gapN l k) ∧ (gapN l k = 0 ↔ ∀ j, j < k → nth l j ≤ 1)
  | 0, _ => by simp [gapN]
  | k + 1, hk => by
    obtain ⟨h1, h2⟩ := gapN_zero h k (by omega)
    have h3 := h _ (nth_mem l k (by omega))
    simp only [gapN]
    refine ⟨by omega, ?_⟩
    constructor
    · intro e
      have e1 : gapN l k = 0 := by omega
      exact step_lt (h2.1 e1) (by omega)
    · intro e
      have := h2.2 fun j hj => e j (by omega)
      have := e k (by omega)
      omega
theorem gapless_eq {n : Int} {t : List (List Int)} (h : validT n t = true) {o : List Int} (ho : o ∈ perm n.toNat n.toNat []) : gapless n t o = okO t o := by
  obtain ⟨h1, h2, h3, h4⟩ := validT_of h
  obtain ⟨hp, hl, _⟩ := perm_mem _ _ o ⟨by simp, by simp⟩ ho
  have hord : isOrd o n = true := by
    refine decide_eq_true ⟨by rw [hl]; simp; omega, fun i hi => ?_⟩
    have := hp.rg _ (nth_mem o i hi)
    refine ⟨this.1, by omega, fun k hk e => ?_⟩
    rw [nth_eq o i hi, nth_eq o k (by omega)] at e
    exact (List.pairwise_iff_getElem.1 hp.nd k i (by omega) hi hk) e.symm
  have herr : runErr n t o = 0 := by unfold runErr; rw [h, hord]; rfl
  have hL : runsL n t o = t.map fun r => ((runsN r o o.length : Nat) : Int) := by unfold runsL; rw [if_pos herr]
  unfold gapless gapsV
  rw [herr, Bool.eq_iff_iff]
  simp only [decide_true, Bool.true_and, decide_eq_true_eq]
  have hg := gapN_zero (l := runsL n t o) (fun x hx => by
    rw [hL] at hx
    simp at hx
    obtain ⟨r, _, rfl⟩ := hx
    omega) (runsL n t o).length (Nat.le_refl _)
  rw [hg.2]
  unfold okO
  rw [decide_eq_true_eq]
  have hlen : (runsL n t o).length = t.length := by rw [hL]; simp
  rw [hlen]
  refine forall_congr' fun i => forall_congr' fun hi => ?_
  have : nth (runsL n t o) i = ((runsN (nth t i) o o.length : Nat) : Int) := by
    rw [nth_eq _ i (by omega), nth_eq t i hi]; simp [hL]
  rw [this]; omega
theorem ords_eq {n : Int} {t : List (List Int)} (h : validT n t = true) : ords n t = allR n t := by
  have h0 := validT_of h
  unfold ords allR
  rw [if_pos h, walks_eq (tabOk h) _ _ _ inv_nil (by simp), lev_eq]
  exact List.filter_congr fun o ho => (gapless_eq h ho).symm
theorem poss_eq : poss = possR := by
  funext n t
  unfold poss possR
  cases h : validT n t with
  | false => rfl
  | true => rw [ords_eq h]
end Go.Proofs.Ytjffjapajfhjhaa

