/-
  Lemmas for the proof: no statement of its own.
-/
import Derived.Test.YtjffjapajfhjhaaPlain
import Derived.Test.YtjffjapajfhjhaaWalkD
set_option linter.unusedVariables false
set_option linter.unusedSimpArgs false
open Go Go.AL Go.RowKit
namespace Go.Proofs.Ytjffjapajfhjhaa
set_option maxRecDepth 20000

/-! ### no gap, in words of sublists -/
def C1 (o r : List Int) : Prop := ∀ x y z, [x, y, z].Sublist o → x ∈ r → z ∈ r → y ∈ r
theorem C1.sub {o o' r : List Int} (h : C1 o r) (hs : o'.Sublist o) : C1 o' r := fun x y z h' => h x y z (h'.trans hs)
theorem sub2 {b : List Int} {i j : Nat} (hij : i < j) (hj : j < b.length) : [nth b i, nth b j].Sublist b := by
  refine List.cons_sublist_iff.2 ⟨b.take j, b.drop j, (List.take_append_drop j b).symm, ?_, List.singleton_sublist.2 ?_⟩
  · rw [nth_eq b i (by omega)]
    exact List.mem_take_iff_getElem.2 ⟨i, by omega, rfl⟩
  · rw [nth_eq b j hj]
    exact List.mem_drop_iff_getElem.2 ⟨0, by omega, rfl⟩
theorem runs_C1 {r o : List Int} (h : runsN r o o.length ≤ 1) : C1 o r := by
  intro x y z hs hx hz
  obtain ⟨a, b, rfl, ha, hs⟩ := List.cons_sublist_iff.1 hs
  obtain ⟨b1, b2, rfl, hb, hs⟩ := List.cons_sublist_iff.1 hs
  have hz' := List.singleton_sublist.1 hs
  obtain ⟨p, hp, rfl⟩ := List.getElem_of_mem ha
  obtain ⟨q, hq, rfl⟩ := List.getElem_of_mem hb
  obtain ⟨s, hs, rfl⟩ := List.getElem_of_mem hz'
  refine Classical.byContradiction fun hy => ?_
  have hl : (a ++ (b1 ++ b2)).length = a.length + (b1.length + b2.length) := by simp
  have e1 : nth (a ++ (b1 ++ b2)) p = a[p] := by rw [nth_eq _ _ (by omega), List.getElem_append_left hp]
  have e2 : nth (a ++ (b1 ++ b2)) (a.length + q) = b1[q] := by
    rw [nth_eq _ _ (by omega), List.getElem_append_right (by omega), List.getElem_append_left (by omega)]; simp
  have e3 : nth (a ++ (b1 ++ b2)) (a.length + b1.length + s) = b2[s] := by
    rw [nth_eq _ _ (by omega), List.getElem_append_right (by omega), List.getElem_append_right (by omega)]
    congr 1; omega
  have hg := runs_gap r (a ++ (b1 ++ b2)) p (a.length + q) (by rw [e1]; exact hx) (by omega) (by rw [e2]; exact hy) (b1.length - q - 1 + s) (by rw [show a.length + q + 1 + (b1.length - q - 1 + s) = a.length + b1.length + s by omega, e3]; exact hz)
  have hm := runs_mono r (a ++ (b1 ++ b2)) ((a ++ (b1 ++ b2)).length - (a.length + b1.length + s + 1)) (a.length + q + 1 + (b1.length - q - 1 + s) + 1)
  rw [show a.length + q + 1 + (b1.length - q - 1 + s) + 1 + ((a ++ (b1 ++ b2)).length - (a.length + b1.length + s + 1)) = (a ++ (b1 ++ b2)).length by omega] at hm
  omega
theorem C1_runs {r : List Int} : ∀ (n : Nat) (o : List Int), o.length = n → C1 o r → runsN r o o.length ≤ 1
  | 0, o, hl, _ => by
    obtain rfl := List.length_eq_zero_iff.1 hl
    simp [runsN]
  | n + 1, o, hl, h => by
    have hne : o ≠ [] := fun e => by subst e; simp at hl
    obtain ⟨b, c, rfl⟩ : ∃ b c, o = b ++ [c] := ⟨o.dropLast, o.getLast hne, (List.dropLast_concat_getLast hne).symm⟩
    have ih := C1_runs n b (by simpa using hl) (h.sub (List.sublist_append_left _ _))
    rw [runs_snoc]
    split
    · rename_i hc
      have hz : runsN r b b.length = 0 := by
        rcases hc.2 with h0 | h0
        · rw [h0]; rfl
        · refine runs_zero r b _ fun j hj hm => ?_
          by_cases e : j = b.length - 1
          · exact h0 (e ▸ hm)
          · have h2 := sub2 (b := b) (i := j) (j := b.length - 1) (by omega) (by omega)
            exact h0 (h _ _ _ (List.Sublist.append h2 (List.Sublist.refl [c])) hm hc.1)
      omega
    · omega
theorem runs_iff {r o : List Int} : runsN r o o.length ≤ 1 ↔ C1 o r := ⟨runs_C1, C1_runs _ o rfl⟩
theorem perm_all {n : Nat} : ∀ (k : Nat) (b o : List Int), Pre n o → b <+: o → o.length = b.length + k → o ∈ perm n k b
  | 0, b, o, _, hp, hl => by
    have := List.IsPrefix.eq_of_length hp (by omega)
    subst this
    simp [perm]
  | k + 1, b, o, ho, hp, hl => by
    simp only [perm, List.mem_flatMap, List.mem_range]
    obtain ⟨s, rfl⟩ := hp
    cases s with
    | nil => simp at hl
    | cons c s =>
      have hc := ho.rg c (by simp)
      have hnd := ho.nd
      rw [List.nodup_append] at hnd
      have hcb : c ∉ b := fun h => hnd.2.2 c h c (by simp) rfl
      have ec : ((c.toNat : Nat) : Int) = c := by omega
      refine ⟨c.toNat, by omega, ?_⟩
      rw [ec, if_neg hcb]
      exact perm_all k (b ++ [c]) _ ho ⟨s, by simp⟩ (by simp at hl ⊢; omega)
/-! ### an order of some columns without a gap in some rows -/
def PO (t : List (List Int)) (rows cols : List Int) : Prop := ∃ o : List Int, o.Nodup ∧ (∀ x, x ∈ o ↔ x ∈ cols) ∧ ∀ j ∈ rows, C1 o (nth t j.toNat)
theorem PO.mono {t : List (List Int)} {rows cols rows' cols' : List Int} (h : PO t rows cols) (hr : ∀ j ∈ rows', j ∈ rows) (hc : ∀ j ∈ cols', j ∈ cols) : PO t rows' cols' := by
  obtain ⟨o, h1, h2, h3⟩ := h
  refine ⟨o.filter fun x => decide (x ∈ cols'), h1.sublist List.filter_sublist, fun x => ?_, fun j hj => (h3 j (hr j hj)).sub List.filter_sublist⟩
  simp only [List.mem_filter, decide_eq_true_eq]
  exact ⟨fun h => h.2, fun h => ⟨(h2 x).2 (hc x h), h⟩⟩
theorem mem_upto {n : Nat} {x : Int} : x ∈ upto n ↔ 0 ≤ x ∧ x < n := by
  unfold upto
  simp only [List.mem_map, List.mem_range]
  constructor
  · rintro ⟨k, h, rfl⟩; omega
  · intro h; exact ⟨x.toNat, by omega, by omega⟩
theorem upto_pw (n : Nat) : (upto n).Pairwise (· < ·) := by
  unfold upto
  rw [List.pairwise_map]
  exact List.pairwise_lt_range.imp fun h => by omega
theorem upto_nth {n i : Nat} (h : i < n) : nth (upto n) i = i := by
  rw [nth_eq _ i (by rw [upto_len]; exact h)]
  simp [upto]
theorem pre_iff {n : Nat} {o : List Int} : (Pre n o ∧ o.length = n) ↔ (o.Nodup ∧ ∀ x, x ∈ o ↔ x ∈ upto n) := by
  constructor
  · rintro ⟨h, hl⟩
    refine ⟨h.nd, fun x => ?_⟩
    rw [mem_upto]
    exact ⟨h.rg x, fun hx => pig_mem h.nd h.rg hl hx.1 hx.2⟩
  · rintro ⟨h1, h2⟩
    refine ⟨⟨h1, fun x hx => mem_upto.1 ((h2 x).1 hx)⟩, ?_⟩
    have := ((List.perm_ext_iff_of_nodup h1 (pw_nodup (upto_pw n))).2 h2).length_eq
    rw [this, upto_len]
theorem possR_PO {n : Int} {t : List (List Int)} (h : validT n t = true) : possR n t = true ↔ PO t (upto t.length) (upto n.toNat) := by
  have hok : ∀ o : List Int, okO t o = true ↔ ∀ j ∈ upto t.length, C1 o (nth t j.toNat) := fun o => by
    unfold okO
    rw [decide_eq_true_eq]
    constructor
    · intro hh j hj
      have hj := mem_upto.1 hj
      exact runs_iff.1 (hh j.toNat (by omega))
    · intro hh i hi
      have := hh i (mem_upto.2 (by omega))
      exact runs_iff.2 (by simpa using this)
  unfold possR
  rw [h, Bool.true_and, Bool.not_eq_true', List.isEmpty_eq_false_iff_exists_mem]
  unfold allR
  rw [lev_eq]
  constructor
  · rintro ⟨o, ho⟩
    rw [List.mem_filter] at ho
    obtain ⟨h1, h2⟩ := ho
    have h2 : okO t o = true := (gapless_eq h h1) ▸ h2
    obtain ⟨hp, hl, _⟩ := perm_mem _ _ o ⟨by simp, by simp⟩ h1
    have := pre_iff.1 ⟨hp, by simpa using hl⟩
    exact ⟨o, this.1, this.2, (hok o).1 h2⟩
  · rintro ⟨o, h1, h2, h3⟩
    obtain ⟨hp, hl⟩ := pre_iff.2 ⟨h1, h2⟩
    have hm : o ∈ perm n.toNat n.toNat [] := perm_all _ _ _ hp List.nil_prefix (by simpa using hl)
    exact ⟨o, List.mem_filter.2 ⟨hm, by rw [gapless_eq h hm]; exact (hok o).2 h3⟩⟩
theorem C1.map {o r r' : List Int} {f : Int → Int} (h : C1 o r) (hf : ∀ x ∈ o, f x ∈ r' ↔ x ∈ r) : C1 (o.map f) r' := by
  intro x y z hs hx hz
  obtain ⟨l, hl, e⟩ := List.sublist_map_iff.1 hs
  match l, e with
  | [a, b, c], e =>
    simp only [List.map_cons, List.map_nil, List.cons.injEq, and_true] at e
    obtain ⟨rfl, rfl, rfl⟩ := e
    have hm := hl.subset
    exact (hf b (hm (by simp))).2 (h a b c hl ((hf a (hm (by simp))).1 hx) ((hf c (hm (by simp))).1 hz))
theorem mem_cutN {r cols : List Int} {x : Int} : x ∈ cutN r cols cols.length ↔ 0 ≤ x ∧ x < cols.length ∧ nth cols x.toNat ∈ r := by
  unfold cutN
  simp only [List.mem_map, List.mem_filter, List.mem_range, decide_eq_true_eq]
  constructor
  · rintro ⟨k, ⟨h1, h2⟩, rfl⟩
    exact ⟨by omega, by omega, by simpa using h2⟩
  · rintro ⟨h1, h2, h3⟩
    exact ⟨x.toNat, ⟨by omega, h3⟩, by omega⟩
theorem nodup_map {o : List Int} {f : Int → Int} (h : o.Nodup) (hf : ∀ a ∈ o, ∀ b ∈ o, f a = f b → a = b) : (o.map f).Nodup := by
  refine List.pairwise_map.2 (List.Pairwise.imp_of_mem ?_ h)
  intro a b ha hb hne e
  exact hne (hf a ha b hb e)
theorem cutT_nth {t : List (List Int)} {rows cols : List Int} {i : Nat} (h : i < rows.length) : nth (cutT t rows cols) i = cutN (nth t (nth rows i).toNat) cols cols.length := by
  rw [nth_eq _ i (by simp [cutT]; exact h), nth_eq rows i h]
  simp [cutT]
theorem nth_inj {l : List Int} (h : l.Nodup) {i j : Nat} (hi : i < l.length) (hj : j < l.length) (e : nth l i = nth l j) : i = j := by
  have h1 := idx_nth h hi
  have h2 := idx_nth h hj
  rw [e] at h1; omega
theorem PO_cut {t : List (List Int)} {rows cols rows' cols' : List Int} (hc : cols.Nodup) (hr' : ∀ i ∈ rows', 0 ≤ i ∧ i < rows.length) (hc' : ∀ i ∈ cols', 0 ≤ i ∧ i < cols.length) :
    PO (cutT t rows cols) rows' cols' ↔ PO t (rows'.map fun i => nth rows i.toNat) (cols'.map fun i => nth cols i.toNat) := by
  constructor
  · rintro ⟨o, h1, h2, h3⟩
    have ho : ∀ x ∈ o, 0 ≤ x ∧ x < cols.length := fun x hx => hc' x ((h2 x).1 hx)
    refine ⟨o.map fun i => nth cols i.toNat, nodup_map h1 fun a ha b hb e => ?_, fun x => ?_, fun j hj => ?_⟩
    · have ha := ho a ha
      have hb := ho b hb
      have := nth_inj hc (by omega) (by omega) e
      omega
    · simp only [List.mem_map]
      exact ⟨fun ⟨a, ha, e⟩ => ⟨a, (h2 a).1 ha, e⟩, fun ⟨a, ha, e⟩ => ⟨a, (h2 a).2 ha, e⟩⟩
    · obtain ⟨i, hi, rfl⟩ := List.mem_map.1 hj
      have hri := hr' i hi
      have h := h3 i hi
      rw [cutT_nth (by omega)] at h
      refine h.map fun x hx => ?_
      have := ho x hx
      rw [mem_cutN]
      exact ⟨fun h => ⟨by omega, by omega, h⟩, fun h => h.2.2⟩
  · rintro ⟨o, h1, h2, h3⟩
    have ho : ∀ x ∈ o, ∃ k : Nat, k < cols.length ∧ x = nth cols k ∧ (k : Int) ∈ cols' := fun x hx => by
      obtain ⟨i, hi, rfl⟩ := List.mem_map.1 ((h2 x).1 hx)
      have := hc' i hi
      refine ⟨i.toNat, by omega, rfl, ?_⟩
      rw [show ((i.toNat : Nat) : Int) = i by omega]; exact hi
    refine ⟨o.map (idx cols), nodup_map h1 fun a ha b hb e => ?_, fun x => ?_, fun j hj => ?_⟩
    · obtain ⟨k, hk, rfl, _⟩ := ho a ha
      obtain ⟨l, hl, rfl, _⟩ := ho b hb
      rw [idx_nth hc hk, idx_nth hc hl] at e
      rw [show k = l by omega]
    · simp only [List.mem_map]
      constructor
      · rintro ⟨a, ha, rfl⟩
        obtain ⟨k, hk, rfl, h⟩ := ho a ha
        rw [idx_nth hc hk]; exact h
      · intro hx
        have hx' := hc' x hx
        refine ⟨nth cols x.toNat, (h2 _).2 (List.mem_map.2 ⟨x, hx, rfl⟩), ?_⟩
        rw [idx_nth hc (by omega)]; omega
    · have hrj := hr' j hj
      rw [cutT_nth (by omega)]
      refine (h3 _ (List.mem_map.2 ⟨j, hj, rfl⟩)).map fun x hx => ?_
      obtain ⟨k, hk, rfl, _⟩ := ho x hx
      rw [mem_cutN, idx_nth hc hk]
      simp only [Int.toNat_natCast]
      exact ⟨fun h => h.2.2, fun h => ⟨by omega, by omega, h⟩⟩
theorem asc_of {l : List Int} {lo hi : Int} (h1 : l.Pairwise (· < ·)) (h2 : ∀ x ∈ l, lo ≤ x ∧ x ≤ hi) : asc l lo hi = true := by
  refine decide_eq_true fun i hi' => ?_
  have := h2 _ (nth_mem l i hi')
  refine ⟨this.1, this.2, fun h0 => ?_⟩
  rw [nth_eq l i hi', nth_eq l (i - 1) (by omega)]
  exact List.pairwise_iff_getElem.1 h1 (i - 1) i (by omega) hi' (by omega)
theorem map_upto (l : List Int) : ((upto l.length).map fun i => nth l i.toNat) = l := by
  refine nth_ext (by simp [upto_len]) fun j hj => ?_
  have hj' : j < l.length := by simpa [upto_len] using hj
  rw [nth_eq _ j hj, nth_eq l j hj']
  simp [upto, nth_eq l j hj']
theorem part_of {n : Int} {t : List (List Int)} {rows cols : List Int} (h : part n t rows cols = true) : asc rows 0 ((t.length : Int) - 1) = true ∧ asc cols 0 (n - 1) = true := by
  simpa [part, Bool.and_eq_true] using h
theorem cutN_pw (r cols : List Int) (k : Nat) : (cutN r cols k).Pairwise (· < ·) := by
  unfold cutN
  rw [List.pairwise_map]
  exact (List.pairwise_lt_range.filter _).imp fun h => by omega
theorem cut_valid {n : Int} {t : List (List Int)} {rows cols : List Int} (hv : validT n t = true) (h : part n t rows cols = true) : validT cols.length (cutT t rows cols) = true := by
  obtain ⟨h1, h2, h3, h4⟩ := validT_of hv
  obtain ⟨p1, p2⟩ := part_of h
  have hrl := asc_len p1
  have hcl := asc_len p2
  refine decide_eq_true ⟨by omega, by omega, by simp [cutT]; omega, fun i hi => ?_⟩
  have hi' : i < rows.length := by simpa [cutT] using hi
  rw [cutT_nth hi']
  refine asc_of (cutN_pw _ _ _) fun x hx => ?_
  have := mem_cutN.1 hx
  omega
theorem obs_iff {n : Int} {t : List (List Int)} (hv : validT n t = true) (rows cols : List Int) : obs possR n t rows cols = true ↔ part n t rows cols = true ∧ ¬ PO t rows cols := by
  unfold obs cutR cutErr
  rw [if_neg (by rw [hv]; simp)]
  cases hp : part n t rows cols with
  | false => simp
  | true =>
    obtain ⟨p1, p2⟩ := part_of hp
    simp only [Bool.true_eq_false, if_false, if_true, decide_true, Bool.true_and, Bool.not_eq_true', true_and]
    rw [← Bool.not_eq_true, possR_PO (cut_valid hv hp), Int.toNat_natCast, PO_cut (pw_nodup (asc_pw p2)) (fun i hi => ?_) (fun i hi => mem_upto.1 hi)]
    · rw [show (cutT t rows cols).length = rows.length by simp [cutT], map_upto, map_upto]
    · have := mem_upto.1 hi
      simp [cutT] at this
      omega
theorem obs_valid {P : Int → List (List Int) → Bool} {n : Int} {t : List (List Int)} {rows cols : List Int} (h : obs P n t rows cols = true) : validT n t = true := by
  unfold obs cutErr at h
  cases hv : validT n t with
  | true => rfl
  | false => simp [hv] at h
theorem part_all {n : Int} {t : List (List Int)} (hv : validT n t = true) : asc (upto t.length) 0 ((t.length : Int) - 1) = true ∧ asc (upto n.toNat) 0 (n - 1) = true := by
  obtain ⟨h1, h2, h3, h4⟩ := validT_of hv
  exact ⟨asc_of (upto_pw _) fun x hx => by have := mem_upto.1 hx; omega, asc_of (upto_pw _) fun x hx => by have := mem_upto.1 hx; omega⟩
theorem part_mk {n : Int} {t : List (List Int)} {rows cols : List Int} (h1 : asc rows 0 ((t.length : Int) - 1) = true) (h2 : asc cols 0 (n - 1) = true) : part n t rows cols = true := by
  unfold part; rw [h1, h2]; rfl
theorem obs_all {n : Int} {t : List (List Int)} (hv : validT n t = true) : obs possR n t (upto t.length) (upto n.toNat) = !possR n t := by
  rw [Bool.eq_iff_iff, obs_iff hv, Bool.not_eq_true', ← Bool.not_eq_true, possR_PO hv]
  have := part_all hv
  exact ⟨fun h => h.2, fun h => ⟨part_mk this.1 this.2, h⟩⟩
/-! ### an obstruction stays one in a larger part -/
theorem asc_mem {l : List Int} {lo hi : Int} (h : asc l lo hi = true) {x : Int} (hx : x ∈ l) : lo ≤ x ∧ x ≤ hi := by
  obtain ⟨j, hj, rfl⟩ := List.getElem_of_mem hx
  rw [← nth_eq l j hj]
  exact asc_rng h j hj
theorem obs_rows {n : Int} {t : List (List Int)} {rows cols : List Int} (h : obs possR n t rows cols = true) : obs possR n t (upto t.length) cols = true := by
  have hv := obs_valid h
  obtain ⟨h1, h2⟩ := (obs_iff hv _ _).1 h
  obtain ⟨p1, p2⟩ := part_of h1
  refine (obs_iff hv _ _).2 ⟨part_mk (part_all hv).1 p2, fun hp => h2 (hp.mono (fun j hj => mem_upto.2 ?_) fun _ h => h)⟩
  have := asc_mem p1 hj
  omega
theorem obs_cols {n : Int} {t : List (List Int)} {rows cols : List Int} (h : obs possR n t rows cols = true) : obs possR n t rows (upto n.toNat) = true := by
  have hv := obs_valid h
  obtain ⟨h1, h2⟩ := (obs_iff hv _ _).1 h
  obtain ⟨p1, p2⟩ := part_of h1
  refine (obs_iff hv _ _).2 ⟨part_mk p1 (part_all hv).2, fun hp => h2 (hp.mono (fun _ h => h) fun j hj => mem_upto.2 ?_)⟩
  have := asc_mem p2 hj
  have := (validT_of hv).1
  omega
theorem obs_not {n : Int} {t : List (List Int)} {rows cols : List Int} (h : obs possR n t rows cols = true) : possR n t = false := by
  have hv := obs_valid h
  have := obs_cols (obs_rows h)
  rw [obs_all hv] at this
  simpa using this
end Go.Proofs.Ytjffjapajfhjhaa

open Go Go.AL Go.RowKit
namespace Go.Proofs.Ytjffjapajfhjhaa
set_option maxRecDepth 20000

/-! ### the first and smallest sets of rows -/
theorem choose_false {p : List Int → Bool} {m : Nat} (h : ∀ r, p r = false) : ∀ k b low, chooseS p m k b low = none
  | 0, b, low => by simp [chooseS, h]
  | k + 1, b, low => by
    rw [choose_succ]
    refine fs_none fun j _ => ?_
    unfold chB
    split
    · exact choose_false h k _ _
    · rfl
theorem choose_short {p : List Int → Bool} {m : Nat} : ∀ k b low, m < low + (k + 1) → chooseS p m (k + 1) b low = none
  | 0, b, low, h => by
    rw [choose_succ]
    refine fs_none fun j hj => ?_
    unfold chB
    rw [if_neg (by omega)]
  | k + 1, b, low, h => by
    rw [choose_succ]
    refine fs_none fun j hj => ?_
    unfold chB
    split
    · exact choose_short k _ _ (by omega)
    · rfl
theorem choose_full {p : List Int → Bool} {m : Nat} : ∀ k low, low + k = m → chooseS p m k (upto low) low = if p (upto m) = true then some (upto m) else none
  | 0, low, h => by
    obtain rfl : low = m := by omega
    rfl
  | k + 1, low, h => by
    have ih := choose_full (p := p) (m := m) k (low + 1) (by omega)
    rw [choose_succ]
    have hb : ∀ j, j < low → chB p m k (upto low) low j = none := fun j hj => by unfold chB; rw [if_neg (by omega)]
    have hlow : chB p m k (upto low) low low = if p (upto m) = true then some (upto m) else none := by
      unfold chB
      rw [if_pos (Nat.le_refl _), ← upto_succ, ih]
    by_cases hp : p (upto m) = true
    · rw [if_pos hp] at hlow ⊢
      exact fs_some (by omega) hb hlow
    · rw [if_neg hp] at hlow ⊢
      refine fs_none fun j hj => ?_
      rcases Nat.lt_trichotomy j low with h' | h' | h'
      · exact hb j h'
      · subst h'; exact hlow
      · unfold chB
        rw [if_pos (by omega)]
        cases k with
        | zero => omega
        | succ k => exact choose_short k _ _ (by omega)
theorem choose_sound {p : List Int → Bool} {m : Nat} : ∀ k b low l, chooseS p m k b low = some l → p l = true
  | 0, b, low, l, h => by
    simp only [chooseS] at h
    split at h
    · rename_i hp
      simp at h; subst h; exact hp
    · cases h
  | k + 1, b, low, l, h => by
    rw [choose_succ] at h
    obtain ⟨i, _, h⟩ := List.exists_of_findSome?_eq_some h
    unfold chB at h
    split at h
    · exact choose_sound k _ _ l h
    · cases h
theorem choose_pre {p : List Int → Bool} {m : Nat} : ∀ k b low l, chooseS p m k b low = some l → b <+: l
  | 0, b, low, l, h => by
    simp only [chooseS] at h
    split at h
    · simp at h; subst h; exact List.prefix_refl _
    · cases h
  | k + 1, b, low, l, h => by
    rw [choose_succ] at h
    obtain ⟨i, _, h⟩ := List.exists_of_findSome?_eq_some h
    unfold chB at h
    split at h
    · exact List.IsPrefix.trans (List.prefix_append _ _) (choose_pre k _ _ l h)
    · cases h
theorem fs_first {α : Type} {f : Nat → Option α} {m : Nat} {a : α} (h : (List.range m).findSome? f = some a) : ∃ i, i < m ∧ (∀ j, j < i → f j = none) ∧ f i = some a := by
  induction m with
  | zero => simp at h
  | succ m ih =>
    rw [List.range_succ, List.findSome?_append] at h
    cases h1 : (List.range m).findSome? f with
    | some b =>
      rw [h1] at h
      obtain ⟨i, q1, q2, q3⟩ := ih (by simpa [h1] using h)
      exact ⟨i, by omega, q2, q3⟩
    | none =>
      rw [h1] at h
      have h1 := List.findSome?_eq_none_iff.1 h1
      refine ⟨m, by omega, fun j hj => h1 j (List.mem_range.2 hj), ?_⟩
      cases h2 : f m with
      | none => simp [h2] at h
      | some b => simpa [h2] using h
/-- nothing chosen stands after a list that fits: `r` is `l`, or the first place where they differ is larger in `r` -/
def lexLe (l r : List Int) : Prop := r = l ∨ ∃ i, i < l.length ∧ (∀ j, j < i → nth r j = nth l j) ∧ nth l i < nth r i
theorem choose_first {p : List Int → Bool} {m : Nat} : ∀ (k : Nat) (b : List Int) (low : Nat) (r : List Int), r.Pairwise (· < ·) → r.length = b.length + k → b <+: r → (∀ j, b.length ≤ j → j < r.length → (low : Int) ≤ nth r j ∧ nth r j < m) → p r = true → ∃ l, chooseS p m k b low = some l ∧ lexLe l r
  | 0, b, low, r, _, hl, hb, _, hp => by
    have := List.IsPrefix.eq_of_length hb (by omega)
    subst this
    exact ⟨b, by simp [chooseS, hp], .inl rfl⟩
  | k + 1, b, low, r, hr, hl, hb, hlow, hp => by
    obtain ⟨s, rfl⟩ := hb
    cases s with
    | nil => simp at hl
    | cons c s =>
      have hnc : nth (b ++ c :: s) b.length = c := by
        rw [nth_eq _ _ (by simp)]; simp
      have hc := hlow b.length (Nat.le_refl _) (by simp)
      rw [hnc] at hc
      obtain ⟨l0, e0, hx0⟩ := choose_first (p := p) (m := m) k (b ++ [c]) (c.toNat + 1) (b ++ c :: s) hr (by simp at hl ⊢; omega) ⟨s, by simp⟩ (fun j h1 h2 => by
        refine ⟨?_, (hlow j (by simp at h1; omega) h2).2⟩
        have := List.pairwise_iff_getElem.1 hr b.length j (by simp) h2 (by simp at h1; omega)
        rw [← nth_eq _ _ (by simp), ← nth_eq _ j h2, hnc] at this
        omega) hp
      have hcb : chB p m k b low c.toNat = some l0 := by
        unfold chB
        rw [if_pos (by omega), show ((c.toNat : Nat) : Int) = c by omega]; exact e0
      rw [choose_succ]
      cases hres : (List.range m).findSome? (chB p m k b low) with
      | none =>
        have := List.findSome?_eq_none_iff.1 hres c.toNat (List.mem_range.2 (by omega))
        rw [hcb] at this; cases this
      | some l =>
        refine ⟨l, rfl, ?_⟩
        obtain ⟨i, hi, hmin, hil⟩ := fs_first hres
        have hic : ¬ c.toNat < i := fun h => by
          have := hmin _ h
          rw [hcb] at this; cases this
        by_cases e : i = c.toNat
        · subst e
          rw [hcb] at hil
          obtain rfl : l0 = l := by simpa using hil
          exact hx0
        · right
          unfold chB at hil
          split at hil
          · have hpre := choose_pre _ _ _ _ hil
            obtain ⟨u, rfl⟩ := hpre
            have e1 : b ++ [(i : Int)] ++ u = b ++ ((i : Int) :: u) := by simp
            rw [e1]
            refine ⟨b.length, by simp, fun j hj => ?_, ?_⟩
            · rw [nth_eq _ j (by simp; omega), nth_eq _ j (by simp; omega), List.getElem_append_left hj, List.getElem_append_left hj]
            · rw [hnc, nth_eq _ _ (by simp)]
              simp
              omega
          · cases hil
theorem few_eq (n : Int) (t : List (List Int)) : fewP n t = fewR n t := by
  unfold fewP fewR
  rw [poss_eq]
  by_cases hv : validT n t = true ∧ t.length ≤ 8
  case neg => rw [if_neg hv, if_neg fun h => hv ⟨h.1, h.2.1⟩]
  case pos =>
    rw [if_pos hv]
    have hz : chooseS (fun r => obs possR n t r (upto n.toNat)) t.length 0 [] 0 = none := by
      simp only [chooseS]
      rw [if_neg]
      intro h
      refine ((obs_iff hv.1 _ _).1 h).2 ⟨upto n.toNat, pw_nodup (upto_pw _), fun _ => Iff.rfl, fun j hj => by simp at hj⟩
    cases hp : possR n t with
    | true =>
      rw [if_neg (by simp)]
      refine fs_none fun j _ => choose_false (fun r => ?_) _ _ _
      cases ho : obs possR n t r (upto n.toNat) with
      | false => rfl
      | true => have := obs_not ho; rw [hp] at this; cases this
    | false =>
      rw [if_pos ⟨hv.1, hv.2, rfl⟩]
      cases hl : t.length with
      | zero =>
        exfalso
        have := obs_all hv.1
        rw [hp, hl] at this
        refine ((obs_iff hv.1 _ _).1 this).2 ⟨upto n.toNat, pw_nodup (upto_pw _), fun _ => Iff.rfl, fun j hj => by simp [upto] at hj⟩
      | succ m =>
        rw [hl] at hz
        have hfull := choose_full (p := fun r => obs possR n t r (upto n.toNat)) (m := m + 1) (m + 1) 0 (by omega)
        have ho := obs_all hv.1
        rw [hp, hl] at ho
        rw [if_pos (by simpa using ho)] at hfull
        have hu0 : upto 0 = [] := rfl
        rw [hu0] at hfull
        rw [show m + 1 - 1 = m by omega]
        cases hs : (List.range m).findSome? fun s => chooseS (fun r => obs possR n t r (upto n.toNat)) (m + 1) (s + 1) [] 0 with
        | none =>
          have hs := List.findSome?_eq_none_iff.1 hs
          rw [Option.getD_none]
          refine fs_some (i := m + 1) (by omega) (fun j hj => ?_) hfull
          cases j with
          | zero => exact hz
          | succ j => exact hs j (List.mem_range.2 (by omega))
        | some l =>
          obtain ⟨i, h1, h2, h3⟩ := fs_first hs
          rw [Option.getD_some]
          refine fs_some (i := i + 1) (by omega) (fun j hj => ?_) h3
          cases j with
          | zero => exact hz
          | succ j => exact h2 j (by omega)
theorem few_some {n : Int} {t : List (List Int)} {l : List Int} (h : fewP n t = some l) : obs possR n t l (upto n.toNat) = true ∧ ∀ rows, obs possR n t rows (upto n.toNat) = true → l.length < rows.length ∨ (rows.length = l.length ∧ lexLe l rows) := by
  unfold fewP at h
  rw [poss_eq] at h
  split at h
  case isFalse => cases h
  case isTrue hv =>
  obtain ⟨s, hs, hmin, hsl⟩ := fs_first h
  have hll := choose_len _ _ _ _ hsl
  simp at hll
  refine ⟨choose_sound (p := fun r => obs possR n t r (upto n.toNat)) _ _ _ _ hsl, fun rows hr => ?_⟩
  obtain ⟨p1, p2⟩ := part_of ((obs_iff hv.1 _ _).1 hr).1
  have hrl := asc_len p1
  obtain ⟨l', e, hx⟩ := choose_first (p := fun r => obs possR n t r (upto n.toNat)) (m := t.length) rows.length [] 0 rows (asc_pw p1) (by simp) List.nil_prefix (fun j _ hj => by have := asc_rng p1 j hj; omega) hr
  rcases Nat.lt_trichotomy rows.length s with h' | h' | h'
  · have := hmin _ h'
    simp only [e] at this; cases this
  · right
    refine ⟨by omega, ?_⟩
    rw [h'] at e
    simp only [e] at hsl
    obtain rfl : l' = l := by simpa using hsl
    exact hx
  · left; omega
end Go.Proofs.Ytjffjapajfhjhaa

open Go Go.AL Go.RowKit
namespace Go.Proofs.Ytjffjapajfhjhaa
set_option maxRecDepth 20000

/-! ### a minimal obstruction -/
theorem wo_erase (l : List Int) (i : Nat) : wo l i = l.eraseIdx i := (List.eraseIdx_eq_take_drop_succ l i).symm
theorem wo_nth {l : List Int} {i j : Nat} (hi : i < l.length) (hj : j < l.length - 1) : nth (wo l i) j = if j < i then nth l j else nth l (j + 1) := by
  have h : j < (l.eraseIdx i).length := by rw [← wo_erase, wo_len hi]; omega
  rw [wo_erase, nth_eq _ j h, List.getElem_eraseIdx h]
  split
  · rw [nth_eq l j (by omega)]
  · rw [nth_eq l (j + 1) (by omega)]
theorem wo_mem {l : List Int} (h : l.Nodup) {i : Nat} (hi : i < l.length) {x : Int} : x ∈ wo l i ↔ x ∈ l ∧ x ≠ nth l i := by
  rw [wo_erase, List.mem_eraseIdx_iff_getElem]
  constructor
  · rintro ⟨j, hj, hne, rfl⟩
    refine ⟨List.getElem_mem _, fun e => hne ?_⟩
    rw [← nth_eq l j hj] at e
    exact nth_inj h hj hi e
  · rintro ⟨hx, hne⟩
    obtain ⟨j, hj, rfl⟩ := List.getElem_of_mem hx
    exact ⟨j, hj, fun e => hne (by subst e; rw [nth_eq l j hj]), rfl⟩
theorem asc_sub {l l' : List Int} {lo hi : Int} (h : asc l lo hi = true) (hs : l'.Sublist l) : asc l' lo hi = true := asc_of (List.Pairwise.sublist hs (asc_pw h)) fun x hx => asc_mem h (hs.subset hx)
theorem asc_wo {l : List Int} {lo hi : Int} (h : asc l lo hi = true) (i : Nat) : asc (wo l i) lo hi = true := asc_sub h (by rw [wo_erase]; exact List.eraseIdx_sublist l i)
theorem shrink_min {p : List Int → Bool} {lo hi : Int} (hm : ∀ a b, asc a lo hi = true → asc b lo hi = true → (∀ x ∈ a, x ∈ b) → p a = true → p b = true) : ∀ (i : Nat) (l : List Int), asc l lo hi = true → i ≤ l.length → p l = true → (∀ j, i ≤ j → j < l.length → p (wo l j) = false) →
    asc (shrink p i l) lo hi = true ∧ (∀ x ∈ shrink p i l, x ∈ l) ∧ p (shrink p i l) = true ∧ ∀ j, j < (shrink p i l).length → p (wo (shrink p i l) j) = false
  | 0, l, ha, _, hp, hj => ⟨ha, fun _ h => h, hp, fun j h => hj j (by omega) h⟩
  | i + 1, l, ha, hi, hp, hj => by
    have hnd := pw_nodup (asc_pw ha)
    simp only [shrink]
    by_cases h : p (wo l i) = true
    · rw [if_pos h]
      have hwl := wo_len (l := l) (i := i) (by omega)
      have hwa := asc_wo ha i
      obtain ⟨q1, q2, q3, q4⟩ := shrink_min hm i (wo l i) hwa (by omega) h (fun j h1 h2 => by
        cases hw : p (wo (wo l i) j) with
        | false => rfl
        | true =>
          have := hm _ (wo l (j + 1)) (asc_wo hwa j) (asc_wo ha (j + 1)) (fun x hx => by
            rw [wo_mem (pw_nodup (asc_pw hwa)) h2, wo_mem hnd (by omega), wo_nth (by omega) (by omega), if_neg (by omega)] at hx
            exact (wo_mem hnd (by omega)).2 ⟨hx.1.1, hx.2⟩) hw
          rw [hj (j + 1) (by omega) (by omega)] at this; cases this)
      exact ⟨q1, fun x hx => ((wo_mem hnd (by omega)).1 (q2 x hx)).1, q3, q4⟩
    · rw [if_neg h]
      refine shrink_min hm i l ha (by omega) hp fun j h1 h2 => ?_
      by_cases e : j = i
      · subst e; simpa using h
      · exact hj j (by omega) h2
theorem find_min {n : Int} {t : List (List Int)} (hv : validT n t = true) (ho : obs possR n t (upto t.length) (upto n.toNat) = true) :
    part n t (findR possR n t) (findC possR n t) = true ∧ ¬ PO t (findR possR n t) (findC possR n t) ∧ (∀ i, i < (findR possR n t).length → PO t (wo (findR possR n t) i) (findC possR n t)) ∧ (∀ j, j < (findC possR n t).length → PO t (findR possR n t) (wo (findC possR n t) j)) := by
  obtain ⟨pa1, pa2⟩ := part_all hv
  obtain ⟨r1, r2, r3, r4⟩ := shrink_min (p := fun r => obs possR n t r (upto n.toNat)) (lo := 0) (hi := (t.length : Int) - 1) (fun a b ha hb hab h => by
    have h := (obs_iff hv _ _).1 h
    exact (obs_iff hv _ _).2 ⟨part_mk hb pa2, fun hp => h.2 (hp.mono hab fun _ h => h)⟩) t.length (upto t.length) pa1 (by rw [upto_len]; exact Nat.le_refl _) ho (fun j h1 h2 => by rw [upto_len] at h2; omega)
  have eR : findR possR n t = shrink (fun r => obs possR n t r (upto n.toNat)) t.length (upto t.length) := rfl
  rw [← eR] at r1 r2 r3 r4
  obtain ⟨c1, c2, c3, c4⟩ := shrink_min (p := fun c => obs possR n t (findR possR n t) c) (lo := 0) (hi := n - 1) (fun a b ha hb hab h => by
    have h := (obs_iff hv _ _).1 h
    exact (obs_iff hv _ _).2 ⟨part_mk r1 hb, fun hp => h.2 (hp.mono (fun _ h => h) hab)⟩) n.toNat (upto n.toNat) pa2 (by rw [upto_len]; exact Nat.le_refl _) r3 (fun j h1 h2 => by rw [upto_len] at h2; omega)
  have eC : findC possR n t = shrink (fun c => obs possR n t (findR possR n t) c) n.toNat (upto n.toNat) := rfl
  rw [← eC] at c1 c2 c3 c4
  have hO := (obs_iff hv _ _).1 c3
  refine ⟨hO.1, hO.2, fun i hi => ?_, fun j hj => ?_⟩
  · refine Classical.byContradiction fun hn => ?_
    have h1 := obs_cols ((obs_iff hv _ _).2 ⟨part_mk (asc_wo r1 i) c1, hn⟩)
    rw [r4 i hi] at h1; cases h1
  · refine Classical.byContradiction fun hn => ?_
    have h1 := (obs_iff hv _ _).2 ⟨part_mk r1 (asc_wo c1 j), hn⟩
    rw [c4 j hj] at h1; cases h1
/-! ### rows that never matter -/
theorem len_two {l : List Int} {a b : Int} (ha : a ∈ l) (hb : b ∈ l) (hne : a ≠ b) : 2 ≤ l.length := by
  match l with
  | [] => simp at ha
  | [x] =>
    simp at ha hb
    omega
  | x :: y :: s => simp
theorem C1_small {o r C : List Int} (hnd : o.Nodup) (ho : ∀ x, x ∈ o ↔ x ∈ C) (h : (cutN r C C.length).length < 2) : C1 o r := by
  intro x y z hs hx hz
  exfalso
  have hm := hs.subset
  have hn := List.Nodup.sublist hs hnd
  have hxz : x ≠ z := by
    intro e; subst e; simp at hn
  have key : ∀ x, x ∈ o → x ∈ r → ∃ k : Nat, k < C.length ∧ nth C k = x ∧ (k : Int) ∈ cutN r C C.length := fun x hx hr => by
    obtain ⟨k, hk, rfl⟩ := List.getElem_of_mem ((ho x).1 hx)
    refine ⟨k, hk, nth_eq C k hk, mem_cutN.2 ⟨by omega, by omega, ?_⟩⟩
    simp only [Int.toNat_natCast]
    rw [nth_eq C k hk]; exact hr
  obtain ⟨k1, h1, e1, m1⟩ := key x (hm (by simp)) hx
  obtain ⟨k2, h2, e2, m2⟩ := key z (hm (by simp)) hz
  have := len_two m1 m2 fun e => hxz (by rw [← e1, ← e2]; congr 1; omega)
  omega
theorem C1_large {o r C : List Int} (ho : ∀ x, x ∈ o ↔ x ∈ C) (h : C.length ≤ (cutN r C C.length).length) : C1 o r := by
  intro x y z hs hx hz
  have hy : y ∈ C := (ho y).1 (hs.subset (by simp))
  obtain ⟨k, hk, rfl⟩ := List.getElem_of_mem hy
  have hl : ((List.range C.length).filter fun k => decide (nth C k ∈ r)).length = (List.range C.length).length := by
    have := List.length_filter_le (fun k => decide (nth C k ∈ r)) (List.range C.length)
    unfold cutN at h
    rw [List.length_map] at h
    simp only [List.length_range] at this ⊢
    omega
  have := List.length_filter_eq_length_iff.1 hl k (List.mem_range.2 hk)
  rw [← nth_eq C k hk]
  simpa using this
def rk (A B : List Int) (x : Int) : Nat := if x ∈ A then (if x ∈ B then 1 else 0) else if x ∈ B then 2 else 3
theorem PO_two {t : List (List Int)} {C : List Int} (hC : C.Nodup) (a b : Int) : PO t [a, b] C := by
  generalize hA : nth t a.toNat = A
  generalize hB : nth t b.toNat = B
  have hpw : (C.mergeSort fun x y => decide (rk A B x ≤ rk A B y)).Pairwise (fun x y => decide (rk A B x ≤ rk A B y) = true) := List.pairwise_mergeSort (by simp; omega) (by simp; omega) C
  have hperm := List.mergeSort_perm C fun x y => decide (rk A B x ≤ rk A B y)
  generalize (C.mergeSort fun x y => decide (rk A B x ≤ rk A B y)) = o at hpw hperm
  have hr : ∀ x y z, [x, y, z].Sublist o → rk A B x ≤ rk A B y ∧ rk A B y ≤ rk A B z := fun x y z hs => by
    have := List.Pairwise.sublist hs hpw
    simp at this
    exact ⟨this.1.1, this.2⟩
  refine ⟨o, (hperm.nodup_iff).2 hC, fun x => hperm.mem_iff, fun j hj => ?_⟩
  have hj : nth t j.toNat = A ∨ nth t j.toNat = B := by
    simp at hj
    rcases hj with rfl | rfl
    · exact .inl hA
    · exact .inr hB
  intro x y z hs hx hz
  obtain ⟨h1, h2⟩ := hr x y z hs
  unfold rk at h1 h2
  rcases hj with e | e <;> rw [e] at hx hz ⊢ <;> (refine Classical.byContradiction fun hy => ?_) <;>
    by_cases q1 : x ∈ A <;> by_cases q2 : x ∈ B <;> by_cases q3 : y ∈ A <;> by_cases q4 : y ∈ B <;> by_cases q5 : z ∈ A <;> by_cases q6 : z ∈ B <;>
    first
    | exact absurd hx (by assumption)
    | exact absurd hz (by assumption)
    | exact hy (by assumption)
    | (simp only [q1, q2, q3, q4, q5, q6, if_true, if_false] at h1 h2; omega)
/-! ### the sizes -/
theorem size_row {t : List (List Int)} {R C : List Int} (hR : R.Nodup) (hn : ¬ PO t R C) (hr : ∀ i, i < R.length → PO t (wo R i) C) {i : Nat} (hi : i < R.length) : 2 ≤ (cutN (nth t (nth R i).toNat) C C.length).length ∧ (cutN (nth t (nth R i).toNat) C C.length).length < C.length := by
  obtain ⟨o, h1, h2, h3⟩ := hr i hi
  have key : ¬ C1 o (nth t (nth R i).toNat) := fun hc => hn ⟨o, h1, h2, fun j hj => by
    by_cases e : j = nth R i
    · subst e; exact hc
    · exact h3 j ((wo_mem hR hi).2 ⟨hj, e⟩)⟩
  constructor
  · refine Nat.le_of_not_lt fun h => key (C1_small h1 h2 (by omega))
  · refine Nat.lt_of_not_le fun h => key (C1_large h2 h)
theorem size_three {t : List (List Int)} {R C : List Int} (hC : C.Nodup) (hn : ¬ PO t R C) : 3 ≤ R.length := by
  refine Nat.le_of_not_lt fun h => hn ?_
  match R, h with
  | [], _ => exact (PO_two hC 0 0).mono (by simp) fun _ h => h
  | [a], _ => exact (PO_two hC a a).mono (by simp) fun _ h => h
  | [a, b], _ => exact PO_two hC a b
  | _ :: _ :: _ :: _, h => simp at h; omega
/-! ### counting twice -/
def sumN (f : Nat → Nat) : Nat → Nat
  | 0 => 0
  | m + 1 => sumN f m + f m
theorem sumN_add (f g : Nat → Nat) : ∀ m, sumN (fun c => f c + g c) m = sumN f m + sumN g m
  | 0 => rfl
  | m + 1 => by simp only [sumN, sumN_add f g m]; omega
theorem sumN_one (a : Nat) : ∀ m, sumN (fun c => if (a : Int) = c then 1 else 0) m = if a < m then 1 else 0
  | 0 => rfl
  | m + 1 => by
    simp only [sumN, sumN_one a m]
    split <;> split <;> split <;> omega
theorem sumN_const {f : Nat → Nat} {k : Nat} : ∀ m, (∀ c, c < m → f c = k) → sumN f m = m * k
  | 0, _ => by simp [sumN]
  | m + 1, h => by
    have h1 := sumN_const (f := f) (k := k) m fun c hc => h c (by omega)
    have h2 := h m (by omega)
    simp only [sumN, h1, h2, Nat.add_mul]; omega
theorem cnt_sum {t : List (List Int)} {m : Nat} : ∀ k, (∀ i, i < k → 0 ≤ nth (nth t i) 0 ∧ nth (nth t i) 0 < m ∧ 0 ≤ nth (nth t i) 1 ∧ nth (nth t i) 1 < m) → sumN (fun c => cntI t c k) m = 2 * k
  | 0, _ => by
    have : sumN (fun c => cntI t c 0) m = m * 0 := sumN_const m fun c _ => rfl
    omega
  | k + 1, h => by
    obtain ⟨h1, h2, h3, h4⟩ := h k (by omega)
    have ih := cnt_sum k fun i hi => h i (by omega)
    obtain ⟨a, ha⟩ : ∃ a : Nat, nth (nth t k) 0 = a := ⟨_, (Int.toNat_of_nonneg h1).symm⟩
    obtain ⟨b, hb⟩ : ∃ b : Nat, nth (nth t k) 1 = b := ⟨_, (Int.toNat_of_nonneg h3).symm⟩
    have e : (fun c => cntI t c (k + 1)) = fun c => (cntI t c k + (if (a : Int) = c then 1 else 0)) + (if (b : Int) = c then 1 else 0) := by
      funext c
      simp only [cntI, ha, hb]
    rw [e, sumN_add, sumN_add, ih, sumN_one, sumN_one, if_pos (by omega), if_pos (by omega)]
    omega
theorem kind_cut {n : Int} {t : List (List Int)} {R C : List Int} (hv : validT n t = true) (hp : part n t R C = true) (hn : ¬ PO t R C) (hr : ∀ i, i < R.length → PO t (wo R i) C) (hc : ∀ j, j < C.length → PO t R (wo C j)) :
    kindV possR C.length (cutT t R C) = 2 ∨ (kindV possR C.length (cutT t R C) = 1 ∧ R.length = C.length) := by
  obtain ⟨p1, p2⟩ := part_of hp
  have hCn := pw_nodup (asc_pw p2)
  have hRn := pw_nodup (asc_pw p1)
  have hcv := cut_valid hv hp
  have hl : (cutT t R C).length = R.length := by simp [cutT]
  have hur : ∀ i, i < (upto R.length).length → ∀ x ∈ (wo (upto R.length) i).map (fun i => nth R i.toNat), x ∈ wo R i := fun i hi x hx => by
    rw [upto_len] at hi
    obtain ⟨k, hk, rfl⟩ := List.mem_map.1 hx
    rw [wo_mem (pw_nodup (upto_pw _)) (by rw [upto_len]; exact hi), upto_nth hi] at hk
    have hk1 := mem_upto.1 hk.1
    refine (wo_mem hRn hi).2 ⟨nth_mem R _ (by omega), fun e => ?_⟩
    have := nth_inj hRn (by omega) hi e
    omega
  have huc : ∀ i, i < (upto C.length).length → ∀ x ∈ (wo (upto C.length) i).map (fun i => nth C i.toNat), x ∈ wo C i := fun i hi x hx => by
    rw [upto_len] at hi
    obtain ⟨k, hk, rfl⟩ := List.mem_map.1 hx
    rw [wo_mem (pw_nodup (upto_pw _)) (by rw [upto_len]; exact hi), upto_nth hi] at hk
    have hk1 := mem_upto.1 hk.1
    refine (wo_mem hCn hi).2 ⟨nth_mem C _ (by omega), fun e => ?_⟩
    have := nth_inj hCn (by omega) hi e
    omega
  have hwu : ∀ (k i : Nat), i < (upto k).length → ∀ x ∈ wo (upto k) i, 0 ≤ x ∧ x < k := fun k i hi x hx => mem_upto.1 ((wo_mem (pw_nodup (upto_pw k)) hi).1 hx).1
  have hmin : minB (obs possR C.length (cutT t R C)) (upto (cutT t R C).length) (upto ((C.length : Int)).toNat) = true := by
    rw [hl, Int.toNat_natCast]
    unfold minB
    simp only [Bool.and_eq_true, decide_eq_true_eq]
    have hno : ∀ r c, PO (cutT t R C) r c → obs possR C.length (cutT t R C) r c = false := fun r c h => by
      cases ho : obs possR C.length (cutT t R C) r c with
      | false => rfl
      | true => exact absurd h ((obs_iff hcv _ _).1 ho).2
    refine ⟨⟨?_, fun i hi => hno _ _ ?_⟩, fun i hi => hno _ _ ?_⟩
    · have := part_all hcv
      rw [hl, Int.toNat_natCast] at this
      refine (obs_iff hcv _ _).2 ⟨part_mk (by rw [hl]; exact this.1) this.2, fun h => hn ?_⟩
      rw [PO_cut hCn (fun i hi => mem_upto.1 hi) (fun i hi => mem_upto.1 hi), map_upto, map_upto] at h
      exact h
    · rw [PO_cut hCn (fun k hk => hwu _ i hi k hk) (fun i hi => mem_upto.1 hi), map_upto]
      exact (hr i (by simpa [upto_len] using hi)).mono (hur i hi) fun _ h => h
    · rw [PO_cut hCn (fun k hk => mem_upto.1 hk) (fun k hk => hwu _ i hi k hk), map_upto]
      exact (hc i (by simpa [upto_len] using hi)).mono (fun _ h => h) (huc i hi)
  unfold kindV
  rw [if_pos ⟨hcv, hmin⟩]
  split
  · exact .inl rfl
  · rename_i hk
    right
    refine ⟨rfl, ?_⟩
    have h1 : ∀ i, i < (cutT t R C).length → (nth (cutT t R C) i).length = 2 := fun i hi => Classical.byContradiction fun h => hk (.inl ⟨i, hi, h⟩)
    have h2 : ∀ c, c < C.length → cntI (cutT t R C) c (cutT t R C).length = 2 := fun c hc => Classical.byContradiction fun h => hk (.inr ⟨c, by simpa using hc, h⟩)
    have hs1 := sumN_const (f := fun c => cntI (cutT t R C) c (cutT t R C).length) (k := 2) C.length h2
    have hs2 := cnt_sum (t := cutT t R C) (m := C.length) (cutT t R C).length fun i hi => by
      have ha := (validT_of hcv).2.2.2 i hi
      have hl2 := h1 i hi
      have q0 := asc_rng ha 0 (by omega)
      have q1 := asc_rng ha 1 (by omega)
      omega
    omega
end Go.Proofs.Ytjffjapajfhjhaa

