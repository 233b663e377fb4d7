/-
  Lemmas for the proof: no statement of its own.
-/
import Derived.Test.YtgldpbghbkoolaaWalkR
import Derived.Test.YtgldpbghbkoolaaWalkF
import Derived.Test.YtgldpbghbkoolaaPlainD
import Derived.Test.YtgldpbghbkoolaaPlainE
set_option linter.unusedVariables false
set_option linter.unusedSimpArgs false
-- P p_15.txt
open Go Go.AL Go.RowKit
namespace Go.Proofs.Ytgldpbghbkoolaa
set_option maxRecDepth 20000
/-! ### without a link (the first of these as in chapter 14) -/
theorem pwI_ext {a b : List Int} (ha : a.Pairwise (· < ·)) (hb : b.Pairwise (· < ·)) (h : ∀ x, x ∈ a ↔ x ∈ b) : a = b :=
  List.Perm.eq_of_pairwise (fun x y _ _ h1 h2 => by omega) ha hb ((List.perm_ext_iff_of_nodup (ha.imp fun h => by omega) (hb.imp fun h => by omega)).2 h)
theorem numV_sub {l m : List Int} (h : numV l = true) (hs : m.Sublist l) : numV m = true := by
  have ha : ascV l = true := by unfold numV at h; simp only [Bool.and_eq_true] at h; exact h.1
  have hp := (ascV_asc ha).sublist hs
  have hb : ∀ x ∈ l, 1 ≤ x ∧ x ≤ 999 := fun x hx => by
    obtain ⟨i, hi, rfl⟩ := List.getElem_of_mem hx
    unfold ascV at ha
    simp only [decide_eq_true_eq] at ha
    have := ha i hi
    rw [nth_eq l i hi] at this
    exact ⟨this.1, this.2.1⟩
  unfold numV at h ⊢
  simp only [Bool.and_eq_true, decide_eq_true_eq] at h ⊢
  refine ⟨?_, Nat.le_trans hs.length_le h.2⟩
  unfold ascV
  simp only [decide_eq_true_eq]
  intro i hi
  have := hb _ (hs.mem (nth_mem' m i hi))
  refine ⟨this.1, this.2, fun h0 => ?_⟩
  rw [nth_eq m (i - 1) (by omega), nth_eq m i hi]
  exact List.pairwise_iff_getElem.1 hp (i - 1) i (by omega) hi (by omega)
theorem valid_mk {g : Gr} (h1 : numV g.obv = true) (h2 : numV g.rev = true) (h3 : g.links.length ≤ 64) (h4 : g.links.Pairwise fun x y => x.id < y.id) (h5 : ∀ x ∈ g.links, 1 ≤ x.id ∧ x.id ≤ 9999 ∧ x.obv ∈ g.obv ∧ x.rev ∈ g.rev) (h6 : ∀ n ∈ g.obv, ∃ x ∈ g.links, x.obv = n) (h7 : ∀ n ∈ g.rev, ∃ x ∈ g.links, x.rev = n) : validG g = true := by
  rw [validG_iff]
  refine ⟨h1, h2, h3, fun i hi => ?_, fun n hn => by simpa using h6 n hn, fun n hn => by simpa using h7 n hn⟩
  obtain ⟨a, b, c, d⟩ := h5 _ (nth_mem' g.links i hi)
  refine ⟨a, b, fun h0 => ?_, c, d⟩
  rw [nth_eq _ (i - 1) (by omega), nth_eq _ i hi]
  exact List.pairwise_iff_getElem.1 h4 (i - 1) i (by omega) hi (by omega)
theorem wo_mem {v : Int} {ls : List Lk} {x : Lk} : x ∈ woL v ls ↔ x ∈ ls ∧ x.id ≠ v := by unfold woL; rw [List.mem_filter, decide_eq_true_eq]
theorem wo_valid {g : Gr} (hv : validG g = true) (v : Int) : validG (woG g v) = true := by
  have hasc := valid_asc hv
  have hlk := valid_lk hv
  obtain ⟨a, b, c, _⟩ := (validG_iff g).1 hv
  have e1 : (woG g v).obv = g.obv.filter (fun n => decide (n ∈ (woL v g.links).map Lk.obv)) := pwI_ext (cs_pw _) (hasc.1.sublist List.filter_sublist) fun y => by
    show y ∈ cs _ ↔ _
    rw [cs_mem, List.mem_filter, decide_eq_true_eq]
    refine ⟨fun h => ⟨?_, h⟩, fun h => h.2⟩
    obtain ⟨x, hx, rfl⟩ := List.mem_map.1 h
    exact (hlk x (wo_mem.1 hx).1).2.2.1
  have e2 : (woG g v).rev = g.rev.filter (fun n => decide (n ∈ (woL v g.links).map Lk.rev)) := pwI_ext (cs_pw _) (hasc.2.sublist List.filter_sublist) fun y => by
    show y ∈ cs _ ↔ _
    rw [cs_mem, List.mem_filter, decide_eq_true_eq]
    refine ⟨fun h => ⟨?_, h⟩, fun h => h.2⟩
    obtain ⟨x, hx, rfl⟩ := List.mem_map.1 h
    exact (hlk x (wo_mem.1 hx).1).2.2.2
  refine valid_mk (by rw [e1]; exact numV_sub a List.filter_sublist) (by rw [e2]; exact numV_sub b List.filter_sublist) (Nat.le_trans (woL_len v g.links) c) ((valid_ids hv).sublist List.filter_sublist) (fun x hx => ?_) (fun n hn => ?_) (fun n hn => ?_)
  · have h := hlk x (wo_mem.1 hx).1
    exact ⟨h.1, h.2.1, cs_mem.2 (List.mem_map_of_mem hx), cs_mem.2 (List.mem_map_of_mem hx)⟩
  · obtain ⟨x, hx, e⟩ := List.mem_map.1 (cs_mem.1 hn)
    exact ⟨x, hx, e⟩
  · obtain ⟨x, hx, e⟩ := List.mem_map.1 (cs_mem.1 hn)
    exact ⟨x, hx, e⟩
theorem wo_split {ls : List Lk} (hp : ls.Pairwise fun x y => x.id < y.id) {k : Lk} (hk : k ∈ ls) : ∃ A B, ls = A ++ k :: B ∧ woL k.id ls = A ++ B := by
  obtain ⟨A, B, rfl⟩ := List.append_of_mem hk
  refine ⟨A, B, rfl, ?_⟩
  rw [List.pairwise_append, List.pairwise_cons] at hp
  unfold woL
  rw [List.filter_append, List.filter_cons, if_neg (by simp), List.filter_eq_self.2 fun x hx => ?_, List.filter_eq_self.2 fun x hx => ?_]
  · have := hp.2.1.1 x hx
    rw [decide_eq_true_eq]; omega
  · have := hp.2.2 x hx k (List.mem_cons_self ..)
    rw [decide_eq_true_eq]; omega
theorem wo_len {ls : List Lk} (hp : ls.Pairwise fun x y => x.id < y.id) {k : Lk} (hk : k ∈ ls) : (woL k.id ls).length + 1 = ls.length := by
  obtain ⟨A, B, e1, e2⟩ := wo_split hp hk
  rw [e2, e1]; simp; omega
end Go.Proofs.Ytgldpbghbkoolaa

-- P p_15.txt
open Go Go.AL Go.RowKit
namespace Go.Proofs.Ytgldpbghbkoolaa
set_option maxRecDepth 20000
/-! ### cuts over dies -/
def crB (T : Die → Bool) (l : Lk) : Bool := T l.o != T l.r
def cutD (L : List Lk) (T : Die → Bool) : Nat := (L.filter (crB T)).length
theorem sumI_cut (ls : List Lk) (f : Nat → Int) (T : Die → Bool) (h : ∀ k, k < ls.length → f k = if crB T (nth ls k) = true then 1 else 0) : ∀ n, n ≤ ls.length → sumI f n = (cutD (ls.take n) T : Int)
  | 0, _ => by simp [sumI, cutD]
  | n + 1, hn => by
    have ih := sumI_cut ls f T h n (by omega)
    have hk := h n (by omega)
    unfold cutD at ih ⊢
    rw [List.take_succ_eq_append_getElem (by omega : n < ls.length), List.filter_append, List.length_append]
    simp only [sumI]
    rw [ih, hk, nth_eq ls n (by omega)]
    simp only [List.filter_cons, List.filter_nil]
    split <;> simp
theorem cutN_D {g : Gr} (hv : validG g = true) (T' : Nat → Bool) (T : Die → Bool) (h : ∀ d ∈ diesG g, T' (plN (diesG g) d) = T d) : cutN (esG g) (noG g) T' = (cutD g.links T : Int) := by
  unfold cutN
  rw [esG_len, sumI_cut g.links _ T (fun k hk => ?_) g.links.length (Nat.le_refl _), List.take_length]
  have hm := valid_ends hv _ (nth_mem'' g.links k hk)
  have hng : nth (noG g) k = false := by
    unfold noG
    rw [nth_eq _ k (by simpa using hk)]; simp
  rw [esG_nth hv hk, hng]
  simp only [true_and]
  rw [h _ hm.1, h _ hm.2]
  unfold crB
  simp only [bne_iff_ne]
/-- the flow is the least cut over dies -/
theorem flow_D {g : Gr} {a b : Die} (h : flowE g a b = 0) : (∃ T : Die → Bool, T a = true ∧ T b = false ∧ (cutD g.links T : Int) = flowV g a b) ∧ ∀ T : Die → Bool, T a = true → T b = false → flowV g a b ≤ (cutD g.links T : Int) := by
  obtain ⟨hv, ha, hb, hab⟩ := flowE_zero.1 h
  have m := flow_mc (noG g) hv ha hb hab
  have e : flowV g a b = flowM g (noG g) a b := by unfold flowV; rw [if_pos h]
  rw [e]
  obtain ⟨⟨T', t1, t2, t3⟩, m2⟩ := m
  refine ⟨⟨fun d => T' (plN (diesG g) d), t1, t2, ?_⟩, fun T h1 h2 => ?_⟩
  · rw [← t3]; exact (cutN_D hv T' _ fun d _ => rfl).symm
  · have hT : ∀ d ∈ diesG g, (fun i => T (nth (diesG g) i)) (plN (diesG g) d) = T d := fun d hd => by
      simp only []; rw [(plN_mem hd).2]
    rw [← cutN_D hv (fun i => T (nth (diesG g) i)) T hT]
    exact m2 _ ((hT a ha).trans h1) ((hT b hb).trans h2)
theorem cutD_wo {ls : List Lk} (hp : ls.Pairwise fun x y => x.id < y.id) {k : Lk} (hk : k ∈ ls) (T : Die → Bool) : cutD (woL k.id ls) T ≤ cutD ls T ∧ cutD ls T ≤ cutD (woL k.id ls) T + 1 := by
  obtain ⟨A, B, e1, e2⟩ := wo_split hp hk
  rw [e2, e1]
  unfold cutD
  rw [List.filter_append, List.filter_append, List.length_append, List.length_append, List.filter_cons]
  split
  · rw [List.length_cons]; omega
  · omega
theorem die_wo {g : Gr} (hv : validG g = true) {v : Int} {d : Die} {l : Lk} (hl : l ∈ woL v g.links) (h : d = l.o ∨ d = l.r) : d ∈ diesG (woG g v) := by
  have he := valid_ends (wo_valid hv v) l hl
  rcases h with rfl | rfl
  · exact he.1
  · exact he.2
/-- what the statement says -/
theorem more {g : Gr} {k : Lk} (hk : k ∈ g.links) {a b : Die} (h : flowE g a b = 0) :
    (flowE (woG g k.id) a b = 0 → flowV (woG g k.id) a b ≤ flowV g a b ∧ flowV g a b - 1 ≤ flowV (woG g k.id) a b) ∧ (flowE (woG g k.id) a b ≠ 0 → flowE (woG g k.id) a b = 7 ∧ flowV g a b ≤ 1) := by
  obtain ⟨hv, ha, hb, hab⟩ := flowE_zero.1 h
  have hw := wo_valid hv k.id
  have hp := valid_ids hv
  obtain ⟨⟨T, t1, t2, t3⟩, m2⟩ := flow_D h
  refine ⟨fun h0 => ?_, fun h0 => ?_⟩
  · obtain ⟨⟨U, u1, u2, u3⟩, n2⟩ := flow_D h0
    have c1 := n2 T t1 t2
    have c2 := m2 U u1 u2
    have d1 := cutD_wo hp hk T
    have d2 := cutD_wo hp hk U
    have e : (woG g k.id).links = woL k.id g.links := rfl
    rw [e] at c1 u3
    omega
  · have hE : flowE (woG g k.id) a b = 7 := by
      unfold flowE at h0 ⊢
      rw [if_pos hw] at h0 ⊢
      split
      · rename_i hok; rw [if_pos hok] at h0; exact absurd rfl h0
      · rfl
    refine ⟨hE, ?_⟩
    have hno : a ∉ diesG (woG g k.id) ∨ b ∉ diesG (woG g k.id) := by
      refine Classical.byContradiction fun hc => h0 (flowE_zero.2 ⟨hw, ?_, ?_, hab⟩)
      · exact Classical.byContradiction fun h' => hc (.inl h')
      · exact Classical.byContradiction fun h' => hc (.inr h')
    rcases hno with hno | hno
    · have c := m2 (fun d => decide (d = a)) (by simp) (by simp; exact fun e => hab e.symm)
      have d := (cutD_wo hp hk (fun d => decide (d = a))).2
      have z : cutD (woL k.id g.links) (fun d => decide (d = a)) = 0 := by
        unfold cutD
        rw [List.length_eq_zero_iff, List.filter_eq_nil_iff]
        intro l hl hc
        have h1 : l.o ≠ a := fun e => hno (die_wo hv hl (.inl e.symm))
        have h2 : l.r ≠ a := fun e => hno (die_wo hv hl (.inr e.symm))
        unfold crB at hc
        simp [h1, h2] at hc
      omega
    · have c := m2 (fun d => decide (d ≠ b)) (by simp; exact hab) (by simp)
      have d := (cutD_wo hp hk (fun d => decide (d ≠ b))).2
      have z : cutD (woL k.id g.links) (fun d => decide (d ≠ b)) = 0 := by
        unfold cutD
        rw [List.length_eq_zero_iff, List.filter_eq_nil_iff]
        intro l hl hc
        have h1 : l.o ≠ b := fun e => hno (die_wo hv hl (.inl e.symm))
        have h2 : l.r ≠ b := fun e => hno (die_wo hv hl (.inr e.symm))
        unfold crB at hc
        simp [h1, h2] at hc
      omega
end Go.Proofs.Ytgldpbghbkoolaa

