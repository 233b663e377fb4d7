/-
  Lemmas for the proof: no statement of its own.
-/
import Derived.Test.YtlomngideedobaaWalkM
import Derived.Test.YtlomngideedobaaPlainD
import Derived.Test.YtlomngideedobaaPlainC
set_option linter.unusedVariables false
set_option linter.unusedSimpArgs false
-- P p_14.txt
open Go Go.AL Go.RowKit
namespace Go.Proofs.Ytlomngideedobaa
set_option maxRecDepth 20000
/-! ### the rank of a graph -/
theorem wo_mem {v : Int} {ls : List Lk} {x : Lk} : x ∈ woL v ls ↔ x ∈ ls ∧ x.id ≠ v := by unfold woL; rw [List.mem_filter, decide_eq_true_eq]
theorem wo_valid {g : Gr} (hv : validG g = true) (v : Int) : validG (woG g v) = true := by
  have hasc := valid_asc hv
  have hlk := valid_lk hv
  obtain ⟨a, b, c, _⟩ := (validG_iff g).1 hv
  have e1 : (woG g v).obv = g.obv.filter (fun n => decide (n ∈ (woL v g.links).map Lk.obv)) := pwI_ext (cs_pw _) (hasc.1.sublist List.filter_sublist) fun y => by
    show y ∈ cs _ ↔ _
    rw [cs_mem, List.mem_filter, decide_eq_true_eq]
    refine ⟨fun h => ⟨?_, h⟩, fun h => h.2⟩
    obtain ⟨x, hx, rfl⟩ := List.mem_map.1 h
    exact (hlk x (wo_mem.1 hx).1).2.2.1
  have e2 : (woG g v).rev = g.rev.filter (fun n => decide (n ∈ (woL v g.links).map Lk.rev)) := pwI_ext (cs_pw _) (hasc.2.sublist List.filter_sublist) fun y => by
    show y ∈ cs _ ↔ _
    rw [cs_mem, List.mem_filter, decide_eq_true_eq]
    refine ⟨fun h => ⟨?_, h⟩, fun h => h.2⟩
    obtain ⟨x, hx, rfl⟩ := List.mem_map.1 h
    exact (hlk x (wo_mem.1 hx).1).2.2.2
  refine valid_mk (by rw [e1]; exact numV_sub a List.filter_sublist) (by rw [e2]; exact numV_sub b List.filter_sublist) (Nat.le_trans (woL_len v g.links) c) ((valid_ids hv).sublist List.filter_sublist) (fun x hx => ?_) (fun n hn => ?_) (fun n hn => ?_)
  · have h := hlk x (wo_mem.1 hx).1
    exact ⟨h.1, h.2.1, cs_mem.2 (List.mem_map_of_mem hx), cs_mem.2 (List.mem_map_of_mem hx)⟩
  · obtain ⟨x, hx, e⟩ := List.mem_map.1 (cs_mem.1 hn)
    exact ⟨x, hx, e⟩
  · obtain ⟨x, hx, e⟩ := List.mem_map.1 (cs_mem.1 hn)
    exact ⟨x, hx, e⟩
theorem jn_touch {L : List Lk} {x y : Die} (h : Jn L x y) (hne : x ≠ y) : ∃ l ∈ L, y = l.o ∨ y = l.r := by
  obtain ⟨n, hw⟩ := jn_iff.1 h
  cases hw with
  | nil => exact absurd rfl hne
  | cons _ e =>
    obtain ⟨l, hl, e⟩ := e
    rcases across_iff.1 e with ⟨_, h⟩ | ⟨_, h⟩
    · exact ⟨l, hl, .inr h⟩
    · exact ⟨l, hl, .inl h⟩
theorem or_ne' (k : Lk) : k.o ≠ k.r := fun h => by
  have : (0 : Int) = 1 := congrArg Die.side h
  omega
theorem wo_join {g : Gr} (hv : validG g = true) (k : Lk) : awayE (woG g k.id) k.o k.r = 0 ↔ Jn (woL k.id g.links) k.o k.r := by
  have hw := wo_valid hv k.id
  have he := valid_ends hw
  unfold awayE
  rw [if_pos hw]
  constructor
  · intro h
    split at h
    · rename_i h'; exact h'.2.2
    · cases h
  · intro h
    rw [if_pos]
    refine ⟨?_, ?_, h⟩
    · obtain ⟨l, hl, e⟩ := jn_touch ((jn_eqv _).symm h) (fun e => or_ne' k e.symm)
      rcases e with e | e <;> rw [e]
      · exact (he l hl).1
      · exact (he l hl).2
    · obtain ⟨l, hl, e⟩ := jn_touch h (or_ne' k)
      rcases e with e | e <;> rw [e]
      · exact (he l hl).1
      · exact (he l hl).2
/-- links, less dies, and the components -/
noncomputable def rk (V : List Die) (M : List Lk) : Int := (M.length : Int) - V.length + cc (Jn M) V
theorem rk_nil {V : List Die} (hn : V.Nodup) : rk V [] = 0 := by
  unfold rk
  rw [cc_discrete V hn fun x _ y _ h => jn_nil h]
  simp; omega
theorem rk_yes {V : List Die} {M N : List Lk} {k : Lk} (hs : ∀ l, l ∈ N ↔ l ∈ M ∨ l = k) (hl : N.length = M.length + 1) (h : Jn M k.o k.r) : rk V N = rk V M + 1 := by
  have hj : Joins (Jn M) (Jn N) k.o k.r := jn_add hs
  unfold rk
  rw [cc_congr V fun x _ y _ => hj.same (jn_eqv M) h x y]
  omega
theorem rk_no {V : List Die} {M N : List Lk} {k : Lk} (hs : ∀ l, l ∈ N ↔ l ∈ M ∨ l = k) (hl : N.length = M.length + 1) (mo : k.o ∈ V) (mr : k.r ∈ V) (h : ¬ Jn M k.o k.r) : rk V N = rk V M := by
  have hj : Joins (Jn M) (Jn N) k.o k.r := jn_add hs
  have := cc_join (jn_eqv M) hj h V
  rw [sg_pos ⟨⟨_, mo, (jn_eqv M).rfl _⟩, _, mr, (jn_eqv M).rfl _⟩] at this
  unfold rk
  omega
theorem rk_suf {V : List Die} (hn : V.Nodup) : ∀ L : List Lk, (∀ l ∈ L, l.o ∈ V ∧ l.r ∈ V) → 0 ≤ rk V L ∧ (rk V L ≠ 0 → ∃ A k M, L = A ++ k :: M ∧ Jn M k.o k.r)
  | [], _ => by rw [rk_nil hn]; exact ⟨Int.le_refl _, fun h => absurd rfl h⟩
  | k :: M, h => by
    obtain ⟨i1, i2⟩ := rk_suf hn M fun l hl => h l (List.mem_cons_of_mem _ hl)
    have hk := h k (List.mem_cons_self ..)
    have hs : ∀ l, l ∈ k :: M ↔ l ∈ M ∨ l = k := fun l => by rw [List.mem_cons]; exact Or.comm
    by_cases hj : Jn M k.o k.r
    · rw [rk_yes hs (by simp) hj]
      exact ⟨by omega, fun _ => ⟨[], k, M, rfl, hj⟩⟩
    · rw [rk_no hs (by simp) hk.1 hk.2 hj]
      refine ⟨i1, fun h0 => ?_⟩
      obtain ⟨A, k', M', e, h'⟩ := i2 h0
      exact ⟨k :: A, k', M', by rw [e]; rfl, h'⟩
theorem wo_split {ls : List Lk} (hp : ls.Pairwise fun x y => x.id < y.id) {k : Lk} (hk : k ∈ ls) : ∃ A B, ls = A ++ k :: B ∧ woL k.id ls = A ++ B := by
  obtain ⟨A, B, rfl⟩ := List.append_of_mem hk
  refine ⟨A, B, rfl, ?_⟩
  rw [List.pairwise_append, List.pairwise_cons] at hp
  unfold woL
  rw [List.filter_append, List.filter_cons, if_neg (by simp), List.filter_eq_self.2 fun x hx => ?_, List.filter_eq_self.2 fun x hx => ?_]
  · have := hp.2.1.1 x hx
    rw [decide_eq_true_eq]; omega
  · have := hp.2.2 x hx k (List.mem_cons_self ..)
    rw [decide_eq_true_eq]; omega
theorem wo_len {ls : List Lk} (hp : ls.Pairwise fun x y => x.id < y.id) {k : Lk} (hk : k ∈ ls) : (woL k.id ls).length + 1 = ls.length := by
  obtain ⟨A, B, e1, e2⟩ := wo_split hp hk
  rw [e2, e1]; simp; omega
/-- no loops exactly if no link is spared -/
theorem trees {g : Gr} (hv : validG g = true) : 0 ≤ rk (diesG g).reverse g.links ∧ (rk (diesG g).reverse g.links = 0 ↔ ∀ k ∈ g.links, awayE (woG g k.id) k.o k.r ≠ 0) := by
  have hn : (diesG g).reverse.Nodup := (List.reverse_perm _).nodup_iff.2 (dies_nodup hv)
  have he : ∀ l ∈ g.links, l.o ∈ (diesG g).reverse ∧ l.r ∈ (diesG g).reverse := fun l hl => by
    have := valid_ends hv l hl
    exact ⟨List.mem_reverse.2 this.1, List.mem_reverse.2 this.2⟩
  obtain ⟨h1, h2⟩ := rk_suf hn g.links he
  refine ⟨h1, fun h k hk ha => ?_, fun h => ?_⟩
  · have hj := (wo_join hv k).1 ha
    have hl := wo_len (valid_ids hv) hk
    have hs : ∀ l, l ∈ g.links ↔ l ∈ woL k.id g.links ∨ l = k := fun l => by
      obtain ⟨A, B, e1, e2⟩ := wo_split (valid_ids hv) hk
      rw [e2, e1]
      simp only [List.mem_append, List.mem_cons]
      constructor
      · rintro (h | h | h)
        · exact .inl (.inl h)
        · exact .inr h
        · exact .inl (.inr h)
      · rintro ((h | h) | h)
        · exact .inl h
        · exact .inr (.inr h)
        · exact .inr (.inl h)
    have h3 := rk_yes (V := (diesG g).reverse) hs (by omega) hj
    have h4 := (rk_suf hn (woL k.id g.links) fun l hl => he l (wo_mem.1 hl).1).1
    omega
  · refine Classical.byContradiction fun h0 => ?_
    obtain ⟨A, k, M, e, hj⟩ := h2 h0
    have hk : k ∈ g.links := by rw [e]; simp
    refine h k hk ((wo_join hv k).2 (jn_mono (fun l hl => ?_) hj))
    have hp := valid_ids hv
    rw [e, List.pairwise_append, List.pairwise_cons] at hp
    have := hp.2.1.1 l hl
    exact wo_mem.2 ⟨by rw [e]; simp [hl], by omega⟩
end Go.Proofs.Ytlomngideedobaa

