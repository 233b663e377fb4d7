/-
  Lemmas for the proof: no statement of its own.
-/
import Derived.Test.YtlomngideedobaaWalkA
import Derived.Test.YtlomngideedobaaCutA
set_option linter.unusedVariables false
set_option linter.unusedSimpArgs false
-- P p_14.txt
open Go Go.AL Go.RowKit
namespace Go.Proofs.Ytlomngideedobaa
set_option maxRecDepth 20000
theorem lk_ext {a b : Lk} : a = b ↔ a.id = b.id ∧ a.obv = b.obv ∧ a.rev = b.rev := by cases a; cases b; simp
theorem f49 (a b : List Lk) : FnR Try.prog 49 [.c (LL a), .c (LL b)] [.c (.B (decide (a = b)))] := by
  refine FnR_len (pre := []) (fnCode_callB code49) fun hlen => ?_
  simp only [List.length_map, maxLen] at hlen
  refine fn_walk code49 (by simp) ?_
  (repeat' (first | refine NextAt.mk (fun hc => ?_) (fun pre n v post hc hkey => ?_) | refine Sni.mk (fun hc => ?_) ?_ | refine Both.mk ?_ ?_ | refine AW_seq ?_ | refine AW_block ?_ | ((first | refine AW_reg ?_ | refine AW_cond ?_ | refine AW_skip ?_ | refine AW_exit ?_ | refine AW_ret ?_ | refine AW_regD (by kernel_rfl) ?_ | refine AW_regX (by kernel_rfl) ?_ | refine CallAtG.t (Eq.refl true) ?_ | refine CallAtG.f (Eq.refl false) ?_); try simp (disch := omega) only [go_sem, seval, reduceCtorEq, ↓reduceIte, beq_dec, Int.toNat_natCast, IntKind.signed, IntKind.bits]) | refine And.intro (fun hc => (?_ : AW _ _ _ _)) (fun hc => (?_ : AW _ _ _ _)) | simp (disch := omega) only [go_sem, seval, reduceCtorEq, ↓reduceIte, beq_dec, Int.toNat_natCast, IntKind.signed, IntKind.bits] | (refine And.intro ?_ ?_; focus (first | (intros; omega) | (intros; simp_all; done))) | refine And.intro (?_ : CallAt _ _ _ _ _ _ _ _) ?_ | refine And.intro (?_ : CallAt _ _ _ _ _ _ _ _ ∧ _) ?_ | refine And.intro (?_ : AW _ _ _ _) ?_ | fail))
  · simp; intro h; subst h; exact hc rfl
  · have hl : a.length = b.length := by omega
    refine AW_loopK [0, 1] [4, 5, 11, 12, 13, 14, 15, 16, 17, 18, 19, 20, 21, 22, 23, 24, 25] (fun i : Nat => i ≤ a.length ∧ ∀ j, j < i → nth a j = nth b j) (fun i => [(5, .I i)]) (fun _ => []) (fun i => a.length - i) 0 ⟨by omega, by omega⟩ ?_ ?_
    · simp (disch := omega) only [go_sem, seval, reduceCtorEq, ↓reduceIte, beq_dec, Int.toNat_natCast, IntKind.signed, IntKind.bits, Int.natCast_zero]
    · rintro i ⟨hi, hv⟩
      (repeat' (first | refine NextAt.mk (fun hc => ?_) (fun pre n v post hc hkey => ?_) | refine Sni.mk (fun hc => ?_) ?_ | refine Both.mk ?_ ?_ | refine AW_seq ?_ | refine AW_block ?_ | ((first | refine AW_reg ?_ | refine AW_cond ?_ | refine AW_skip ?_ | refine AW_exit ?_ | refine AW_ret ?_ | refine AW_regD (by kernel_rfl) ?_ | refine AW_regX (by kernel_rfl) ?_ | refine CallAtG.t (Eq.refl true) ?_ | refine CallAtG.f (Eq.refl false) ?_); try simp (disch := omega) only [go_sem, seval, reduceCtorEq, ↓reduceIte, beq_dec, Int.toNat_natCast, IntKind.signed, IntKind.bits, getD_map Lk.cd, Lk.cd]) | refine And.intro (fun hc => (?_ : AW _ _ _ _)) (fun hc => (?_ : AW _ _ _ _)) | simp (disch := omega) only [go_sem, seval, reduceCtorEq, ↓reduceIte, beq_dec, Int.toNat_natCast, IntKind.signed, IntKind.bits, getD_map Lk.cd, Lk.cd] | (refine And.intro ?_ ?_; focus (first | (intros; omega) | (intros; simp_all; done))) | refine And.intro (?_ : CallAt _ _ _ _ _ _ _ _) ?_ | refine And.intro (?_ : CallAt _ _ _ _ _ _ _ _ ∧ _) ?_ | refine And.intro (?_ : AW _ _ _ _) ?_ | fail))
      · symm; simp only [decide_eq_false_iff_not]; intro h; subst h; simp at hc
      · refine .mk (i + 1) ⟨by omega, step_lt hv (lk_ext.2 (by simpa using hc))⟩ (by omega) ?_
        simp (disch := omega) only [go_sem, seval, reduceCtorEq, ↓reduceIte, beq_dec, Int.toNat_natCast, IntKind.signed, IntKind.bits, Int.natCast_add, Int.natCast_one]
      · symm; simp only [decide_eq_true_eq]; exact eq_of_nth hl fun j hj => hv j (by omega)
theorem gr_ext {a b : Gr} : a = b ↔ a.obv = b.obv ∧ a.rev = b.rev ∧ a.links = b.links := by cases a; cases b; simp
theorem f31 (a b : Gr) : FnR Try.prog 31 [a.av, b.av] [.c (.B (decide (a = b)))] := by
  refine fn_walk code31 (by simp) ?_
  (repeat' (first | refine NextAt.mk (fun hc => ?_) (fun pre n v post hc hkey => ?_) | refine Sni.mk (fun hc => ?_) ?_ | refine Both.mk ?_ ?_ | refine AW_seq ?_ | refine AW_block ?_ | ((first | refine AW_reg ?_ | refine AW_cond ?_ | refine AW_skip ?_ | refine AW_exit ?_ | refine AW_ret ?_ | refine AW_regD (by kernel_rfl) ?_ | refine AW_regX (by kernel_rfl) ?_ | refine CallAtG.t (Eq.refl true) ?_ | refine CallAtG.f (Eq.refl false) ?_ | refine CallAt.mk _ (f16 ..) (by first | (intro h; cases h; done) | (intro _; repeat' (first | exact List.forall_mem_nil _ | trivial | refine List.forall_mem_cons.2 ⟨?_, ?_⟩)) | (intro _; simp [RV.flatP, CD.flatP]; done)) ?_ | refine CallAtG.mk _ (fun _ => f16 ..) ?_ | refine CallDS.mk _ (by simp [RV.data]) (fun _ => f16 ..) (by first | (intro h; cases h; done) | (intro _; repeat' (first | exact List.forall_mem_nil _ | trivial | refine List.forall_mem_cons.2 ⟨?_, ?_⟩)) | (intro _; simp [RV.flatP, CD.flatP]; done)) ?_ | refine CallAt.mk _ (f49 ..) (by first | (intro h; cases h; done) | (intro _; repeat' (first | exact List.forall_mem_nil _ | trivial | refine List.forall_mem_cons.2 ⟨?_, ?_⟩)) | (intro _; simp [RV.flatP, CD.flatP]; done)) ?_ | refine CallAtG.mk _ (fun _ => f49 ..) ?_ | refine CallDS.mk _ (by simp [RV.data]) (fun _ => f49 ..) (by first | (intro h; cases h; done) | (intro _; repeat' (first | exact List.forall_mem_nil _ | trivial | refine List.forall_mem_cons.2 ⟨?_, ?_⟩)) | (intro _; simp [RV.flatP, CD.flatP]; done)) ?_); try simp (disch := omega) only [go_sem, seval, reduceCtorEq, ↓reduceIte, beq_dec, Int.toNat_natCast, IntKind.signed, IntKind.bits]) | refine And.intro (fun hc => (?_ : AW _ _ _ _)) (fun hc => (?_ : AW _ _ _ _)) | simp (disch := omega) only [go_sem, seval, reduceCtorEq, ↓reduceIte, beq_dec, Int.toNat_natCast, IntKind.signed, IntKind.bits] | (refine And.intro ?_ ?_; focus (first | (intros; omega) | (intros; simp_all; done))) | refine And.intro (?_ : CallAt _ _ _ _ _ _ _ _) ?_ | refine And.intro (?_ : CallAt _ _ _ _ _ _ _ _ ∧ _) ?_ | refine And.intro (?_ : AW _ _ _ _) ?_ | fail))
  rw [Bool.eq_iff_iff]; simp only [Bool.and_eq_true, decide_eq_true_eq, gr_ext, and_assoc]
end Go.Proofs.Ytlomngideedobaa

-- P p_14.txt
open Go Go.AL Go.RowKit
namespace Go.Proofs.Ytlomngideedobaa
set_option maxRecDepth 20000
def bfr (l : List Int) (x : Int) : Nat := (l.takeWhile fun y => decide (y < x)).length
def insA (l : List Int) (x : Int) : List Int := if nth l (bfr l x) = x ∧ bfr l x < l.length then l else l.take (bfr l x) ++ x :: l.drop (bfr l x)
theorem take_mapL {α β : Type} (f : α → β) (l : List α) : (l.map f).take l.length = l.map f := by rw [← List.map_take, List.take_length]
theorem map_ins {α β : Type} (f : α → β) (l : List α) (k : Nat) (x : α) : (l.map f).take k ++ f x :: (l.map f).drop k = (l.take k ++ x :: l.drop k).map f := by simp [List.map_take, List.map_drop]
def in46 (l : List Int) (x : Int) (k : Nat) : St := ⟨45, [(0, .c (Row l)), (1, .I x), (5, .I k)], []⟩
def ou46 (l : List Int) (x : Int) (k : Nat) : St := ⟨45, [(4, .own 33)], [(33, .arr 3 1 ((l.map fun x => [CD.I x]).take k ++ [CD.I x] :: (l.map fun x => [CD.I x]).drop k))]⟩
set_option maxHeartbeats 40000000 in
theorem r46 (l : List Int) (x : Int) (k : Nat) (hk : k ≤ l.length) (hl : l.length ≤ 1000) : AW Try.prog c46_16 (cutQ (ou46 l x k)) (in46 l x k) := by
  refine AW_regX (by kernel_rfl) ?_
  unfold in46
  (repeat' (first | refine NextAt.mk (fun hc => ?_) (fun pre n v post hc hkey => ?_) | refine Sni.mk (fun hc => ?_) ?_ | refine Both.mk ?_ ?_ | refine AW_seq ?_ | refine AW_block ?_ | ((first | refine AW_reg ?_ | refine AW_cond ?_ | refine AW_skip ?_ | refine AW_exit ?_ | refine AW_ret ?_ | refine AW_regD (by kernel_rfl) ?_ | refine AW_regX (by kernel_rfl) ?_ | refine CallAtG.t (Eq.refl true) ?_ | refine CallAtG.f (Eq.refl false) ?_); try simp (disch := omega) only [go_sem, seval, reduceCtorEq, ↓reduceIte, beq_dec, Int.toNat_natCast, IntKind.signed, IntKind.bits, ou46, List.length_map, List.length_append, List.length_take, List.length_drop, maxLen, List.append_assoc, List.cons_append, List.nil_append, take_mapL]) | refine And.intro (fun hc => (?_ : AW _ _ _ _)) (fun hc => (?_ : AW _ _ _ _)) | simp (disch := omega) only [go_sem, seval, reduceCtorEq, ↓reduceIte, beq_dec, Int.toNat_natCast, IntKind.signed, IntKind.bits, ou46, List.length_map, List.length_append, List.length_take, List.length_drop, maxLen, List.append_assoc, List.cons_append, List.nil_append, take_mapL] | (refine And.intro ?_ ?_; focus (first | (intros; omega) | (intros; simp_all; done))) | refine And.intro (?_ : CallAt _ _ _ _ _ _ _ _) ?_ | refine And.intro (?_ : CallAt _ _ _ _ _ _ _ _ ∧ _) ?_ | refine And.intro (?_ : AW _ _ _ _) ?_ | fail))
  repeat' apply And.intro
  all_goals first | omega | rfl
theorem hold46 {Q : Exit → St → Prop} {σ : St} (h : Hold (AW Try.prog c46_16 Q σ)) : AW Try.prog c46_16 Q σ := h.out
theorem bfr_step {l : List Int} {x : Int} {i : Nat} (hi : i < l.length) (h : nth l i < x) (hb : i ≤ bfr l x) : i + 1 ≤ bfr l x := by
  unfold bfr at *
  rcases Nat.lt_or_ge i (l.takeWhile fun y => decide (y < x)).length with h1 | h1
  · exact h1
  · exfalso
    have e : i = (l.takeWhile fun y => decide (y < x)).length := by omega
    have h2 := List.takeWhile_append_dropWhile (p := fun y => decide (y < x)) (l := l)
    have h3 : (l.dropWhile fun y => decide (y < x)) = l.drop i := by
      have h6 : (l.takeWhile (fun y => decide (y < x)) ++ l.dropWhile fun y => decide (y < x)).drop i = l.drop i := by rw [h2]
      rw [← h6, e, List.drop_left]
    have h4 : (l.dropWhile fun y => decide (y < x)).head? = some (nth l i) := by
      rw [h3, List.head?_drop, List.getElem?_eq_getElem hi, nth_eq l i hi]
    have h5 := List.head?_dropWhile_not (fun y => decide (y < x)) l
    rw [h4] at h5
    simp at h5; omega
theorem bfr_le (l : List Int) (x : Int) : bfr l x ≤ l.length := by
  unfold bfr; exact (List.takeWhile_prefix _).length_le
theorem bfr_at {l : List Int} {x : Int} (h : bfr l x < l.length) : x ≤ nth l (bfr l x) := by
  rcases Int.lt_or_le (nth l (bfr l x)) x with h1 | h1
  · have := bfr_step h h1 (Nat.le_refl _); omega
  · exact h1
theorem bfr_lt {l : List Int} {x : Int} {i : Nat} (h : i < bfr l x) : nth l i < x := by
  have h0 := bfr_le l x
  unfold bfr at h h0
  have h2 := List.takeWhile_append_dropWhile (p := fun y => decide (y < x)) (l := l)
  have h1 : nth l i = (l.takeWhile fun y => decide (y < x))[i] := by
    rw [nth_eq l i (by omega)]
    have : l[i]? = (l.takeWhile fun y => decide (y < x))[i]? := by
      conv => lhs; rw [← h2]
      rw [List.getElem?_append_left h]
    rw [List.getElem?_eq_getElem (by omega), List.getElem?_eq_getElem h] at this
    simpa using this
  have h3 := List.all_takeWhile (p := fun y => decide (y < x)) (l := l)
  rw [List.all_eq_true] at h3
  have := h3 _ (List.getElem_mem h)
  rw [h1]; simpa using this
theorem bfr_end {l : List Int} {x : Int} {i : Nat} (hi : i ≤ l.length) (hb : i ≤ bfr l x) (h : i = l.length ∨ ¬ nth l i < x) : i = bfr l x := by
  rcases Nat.lt_or_ge i (bfr l x) with h1 | h1
  · have h2 := bfr_le l x
    rcases h with h | h
    · omega
    · exact absurd (bfr_lt h1) h
  · omega
set_option maxHeartbeats 4000000 in
theorem f46 (l : List Int) (x : Int) (hl : l.length ≤ 1000) : FnR Try.prog 46 [.c (Row l), .I x] [.c (Row (insA l x))] := by
  refine fn_walk code46 (by simp) ?_
  (repeat' (first | refine NextAt.mk (fun hc => ?_) (fun pre n v post hc hkey => ?_) | refine Sni.mk (fun hc => ?_) ?_ | refine Both.mk ?_ ?_ | refine AW_seq ?_ | refine AW_block ?_ | ((first | refine AW_reg ?_ | refine AW_cond ?_ | refine AW_skip ?_ | refine AW_exit ?_ | refine AW_ret ?_ | refine AW_regD (by kernel_rfl) ?_ | refine AW_regX (by kernel_rfl) ?_ | refine CallAtG.t (Eq.refl true) ?_ | refine CallAtG.f (Eq.refl false) ?_); try simp (disch := omega) only [go_sem, seval, reduceCtorEq, ↓reduceIte, beq_dec, Int.toNat_natCast, IntKind.signed, IntKind.bits]) | refine And.intro (fun hc => (?_ : AW _ _ _ _)) (fun hc => (?_ : AW _ _ _ _)) | simp (disch := omega) only [go_sem, seval, reduceCtorEq, ↓reduceIte, beq_dec, Int.toNat_natCast, IntKind.signed, IntKind.bits] | (refine And.intro ?_ ?_; focus (first | (intros; omega) | (intros; simp_all; done))) | refine And.intro (?_ : CallAt _ _ _ _ _ _ _ _) ?_ | refine And.intro (?_ : CallAt _ _ _ _ _ _ _ _ ∧ _) ?_ | refine And.intro (?_ : AW _ _ _ _) ?_ | fail))
  refine AW_loopK [0, 1] [5, 6, 7, 8, 9, 10, 11, 12, 13, 14, 15, 16, 17, 18, 19] (fun i : Nat => i ≤ l.length ∧ i ≤ bfr l x) (fun i => [(5, .I i)]) (fun _ => []) (fun i => l.length - i) 0 ⟨by omega, by omega⟩ ?_ ?_
  · simp (disch := omega) only [go_sem, seval, reduceCtorEq, ↓reduceIte, beq_dec, Int.toNat_natCast, IntKind.signed, IntKind.bits, Int.natCast_zero]
  · rintro i ⟨hi, hb⟩
    rcases Nat.lt_or_ge i l.length with hil | hil
    · have e1 : ((i : Int) < (l.length : Int)) = True := by simp; omega
      (repeat' (first | (with_reducible refine hold46 ?_; try simp (disch := omega) only [go_sem, seval, reduceCtorEq, ↓reduceIte, beq_dec, Int.toNat_natCast, IntKind.signed, IntKind.bits, getD_map (fun x : Int => [CD.I x]), List.length_map, e1]) | refine NextAt.mk (fun hc => ?_) (fun pre n v post hc hkey => ?_) | refine Sni.mk (fun hc => ?_) ?_ | refine Both.mk ?_ ?_ | refine AW_seq ?_ | refine AW_block ?_ | ((first | refine AW_reg ?_ | refine AW_cond ?_ | refine AW_skip ?_ | refine AW_exit ?_ | refine AW_ret ?_ | refine AW_regD (by kernel_rfl) ?_ | refine AW_regX (by kernel_rfl) ?_ | refine CallAtG.t (Eq.refl true) ?_ | refine CallAtG.f (Eq.refl false) ?_); try simp (disch := omega) only [go_sem, seval, reduceCtorEq, ↓reduceIte, beq_dec, Int.toNat_natCast, IntKind.signed, IntKind.bits, getD_map (fun x : Int => [CD.I x]), List.length_map, e1]) | refine And.intro (fun hc => (?_ : AW _ _ _ _)) (fun hc => (?_ : AW _ _ _ _)) | simp (disch := omega) only [go_sem, seval, reduceCtorEq, ↓reduceIte, beq_dec, Int.toNat_natCast, IntKind.signed, IntKind.bits, getD_map (fun x : Int => [CD.I x]), List.length_map, e1] | (refine And.intro ?_ ?_; focus (first | (intros; omega) | (intros; simp_all; done))) | refine And.intro (?_ : CallAt _ _ _ _ _ _ _ _) ?_ | refine And.intro (?_ : CallAt _ _ _ _ _ _ _ _ ∧ _) ?_ | refine And.intro (?_ : AW _ _ _ _) ?_ | fail))
      · refine .mk (i + 1) ⟨by omega, bfr_step hil hc hb⟩ (by omega) ?_
        simp (disch := omega) only [go_sem, seval, reduceCtorEq, ↓reduceIte, beq_dec, Int.toNat_natCast, IntKind.signed, IntKind.bits, Int.natCast_add, Int.natCast_one]
      · have hb2 := bfr_end hi hb (.inr (by assumption))
        have : insA l x = l := by unfold insA; rw [if_pos ⟨by rw [← hb2]; exact hc, by omega⟩]
        rw [this]
      · have hb2 := bfr_end hi hb (.inr (by assumption))
        have h2 : insA l x = l.take i ++ x :: l.drop i := by unfold insA; rw [if_neg (fun h => hc (by rw [hb2]; exact h.1)), hb2]
        refine ⟨AW_cut (ou46 l x i) (in46 l x i) (r46 l x i hi hl) ?_ ?_⟩
        · unfold in46
          simp (disch := omega) only [go_sem, seval, reduceCtorEq, ↓reduceIte, beq_dec, Int.toNat_natCast, IntKind.signed, IntKind.bits]
        · unfold ou46
          rw [map_ins (fun x : Int => [CD.I x]), ← h2]
          refine AW_frz [33] ?_
          (repeat' (first | refine NextAt.mk (fun hc => ?_) (fun pre n v post hc hkey => ?_) | refine Sni.mk (fun hc => ?_) ?_ | refine Both.mk ?_ ?_ | refine AW_seq ?_ | refine AW_block ?_ | ((first | refine AW_reg ?_ | refine AW_cond ?_ | refine AW_skip ?_ | refine AW_exit ?_ | refine AW_ret ?_ | refine AW_regD (by kernel_rfl) ?_ | refine AW_regX (by kernel_rfl) ?_ | refine CallAtG.t (Eq.refl true) ?_ | refine CallAtG.f (Eq.refl false) ?_); try simp (disch := omega) only [go_sem, seval, reduceCtorEq, ↓reduceIte, beq_dec, Int.toNat_natCast, IntKind.signed, IntKind.bits]) | refine And.intro (fun hc => (?_ : AW _ _ _ _)) (fun hc => (?_ : AW _ _ _ _)) | simp (disch := omega) only [go_sem, seval, reduceCtorEq, ↓reduceIte, beq_dec, Int.toNat_natCast, IntKind.signed, IntKind.bits] | (refine And.intro ?_ ?_; focus (first | (intros; omega) | (intros; simp_all; done))) | refine And.intro (?_ : CallAt _ _ _ _ _ _ _ _) ?_ | refine And.intro (?_ : CallAt _ _ _ _ _ _ _ _ ∧ _) ?_ | refine And.intro (?_ : AW _ _ _ _) ?_ | fail))
    · have e1 : ((i : Int) < (l.length : Int)) = False := by simp; omega
      have e2 : (l.map (fun x : Int => [CD.I x])).getD i [] = [] := by simp [List.getD, List.getElem?_eq_none hil]
      (repeat' (first | (with_reducible refine hold46 ?_; try simp (disch := omega) only [go_sem, seval, reduceCtorEq, ↓reduceIte, beq_dec, Int.toNat_natCast, IntKind.signed, IntKind.bits, e2, List.length_map, e1, List.map_nil, List.headD_nil]) | refine NextAt.mk (fun hc => ?_) (fun pre n v post hc hkey => ?_) | refine Sni.mk (fun hc => ?_) ?_ | refine Both.mk ?_ ?_ | refine AW_seq ?_ | refine AW_block ?_ | ((first | refine AW_reg ?_ | refine AW_cond ?_ | refine AW_skip ?_ | refine AW_exit ?_ | refine AW_ret ?_ | refine AW_regD (by kernel_rfl) ?_ | refine AW_regX (by kernel_rfl) ?_ | refine CallAtG.t (Eq.refl true) ?_ | refine CallAtG.f (Eq.refl false) ?_); try simp (disch := omega) only [go_sem, seval, reduceCtorEq, ↓reduceIte, beq_dec, Int.toNat_natCast, IntKind.signed, IntKind.bits, e2, List.length_map, e1, List.map_nil, List.headD_nil]) | refine And.intro (fun hc => (?_ : AW _ _ _ _)) (fun hc => (?_ : AW _ _ _ _)) | simp (disch := omega) only [go_sem, seval, reduceCtorEq, ↓reduceIte, beq_dec, Int.toNat_natCast, IntKind.signed, IntKind.bits, e2, List.length_map, e1, List.map_nil, List.headD_nil] | (refine And.intro ?_ ?_; focus (first | (intros; omega) | (intros; simp_all; done))) | refine And.intro (?_ : CallAt _ _ _ _ _ _ _ _) ?_ | refine And.intro (?_ : CallAt _ _ _ _ _ _ _ _ ∧ _) ?_ | refine And.intro (?_ : AW _ _ _ _) ?_ | fail))
      have hb2 := bfr_end hi hb (.inl (by omega))
      have h2 : insA l x = l.take i ++ x :: l.drop i := by unfold insA; rw [if_neg (fun h => by omega), hb2]
      refine ⟨AW_cut (ou46 l x i) (in46 l x i) (r46 l x i hi hl) ?_ ?_⟩
      · unfold in46
        simp (disch := omega) only [go_sem, seval, reduceCtorEq, ↓reduceIte, beq_dec, Int.toNat_natCast, IntKind.signed, IntKind.bits]
      · unfold ou46
        rw [map_ins (fun x : Int => [CD.I x]), ← h2]
        refine AW_frz [33] ?_
        (repeat' (first | refine NextAt.mk (fun hc => ?_) (fun pre n v post hc hkey => ?_) | refine Sni.mk (fun hc => ?_) ?_ | refine Both.mk ?_ ?_ | refine AW_seq ?_ | refine AW_block ?_ | ((first | refine AW_reg ?_ | refine AW_cond ?_ | refine AW_skip ?_ | refine AW_exit ?_ | refine AW_ret ?_ | refine AW_regD (by kernel_rfl) ?_ | refine AW_regX (by kernel_rfl) ?_ | refine CallAtG.t (Eq.refl true) ?_ | refine CallAtG.f (Eq.refl false) ?_); try simp (disch := omega) only [go_sem, seval, reduceCtorEq, ↓reduceIte, beq_dec, Int.toNat_natCast, IntKind.signed, IntKind.bits]) | refine And.intro (fun hc => (?_ : AW _ _ _ _)) (fun hc => (?_ : AW _ _ _ _)) | simp (disch := omega) only [go_sem, seval, reduceCtorEq, ↓reduceIte, beq_dec, Int.toNat_natCast, IntKind.signed, IntKind.bits] | (refine And.intro ?_ ?_; focus (first | (intros; omega) | (intros; simp_all; done))) | refine And.intro (?_ : CallAt _ _ _ _ _ _ _ _) ?_ | refine And.intro (?_ : CallAt _ _ _ _ _ _ _ _ ∧ _) ?_ | refine And.intro (?_ : AW _ _ _ _) ?_ | fail))
end Go.Proofs.Ytlomngideedobaa

-- P p_14.txt
open Go Go.AL Go.RowKit
namespace Go.Proofs.Ytlomngideedobaa
set_option maxRecDepth 20000
def bfrL (l : List Lk) (x : Int) : Nat := (l.takeWhile fun y => decide (y.id < x)).length
def insL (l : List Lk) (x : Lk) : List Lk := l.take (bfrL l x.id) ++ x :: l.drop (bfrL l x.id)
theorem bfrL_eq (l : List Lk) (x : Int) : bfrL l x = bfr (l.map Lk.id) x := by
  unfold bfrL bfr
  induction l with
  | nil => rfl
  | cons a l ih =>
    rw [List.map_cons, List.takeWhile_cons, List.takeWhile_cons]
    by_cases h : a.id < x
    · simp [h]; exact ih
    · simp [h]
theorem nth_mapI {α : Type} [Inhabited α] (f : α → Int) (l : List α) (i : Nat) (h : i < l.length) : nth (l.map f) i = f (nth l i) := by
  rw [nth_eq _ i (by simpa using h), nth_eq l i h]; simp
def in47 (l : List Lk) (x : Lk) (k : Nat) : St := ⟨34, [(0, .c (LL l)), (3, .ptr 3 0), (5, .I k)], [(3, .box 47 [.I x.id, .I x.obv, .I x.rev])]⟩
def ou47 (l : List Lk) (x : Lk) (k : Nat) : St := ⟨34, [(4, .own 22)], [(22, .arr 47 3 ((l.map Lk.cd).take k ++ x.cd :: (l.map Lk.cd).drop k))]⟩
def wtI9 (l : List Lk) (x : Lk) (k : Nat) : St := ⟨34, [(0, .c (LL l)), (3, .ptr 3 0), (5, .I k), (22, .own 22), (25, .c (.sl 3 ((l.map Lk.cd).take k))), (30, .c (LL l)), (31, .I k)], [(3, .box 47 [.I x.id, .I x.obv, .I x.rev]), (22, .arr 47 3 [])]⟩
def wtI10 (l : List Lk) (x : Lk) (k : Nat) : St := ⟨34, [(0, .c (LL l)), (3, .ptr 3 0), (5, .I k), (22, .own 22), (23, .c (LL l)), (24, .I k), (27, .agg [.I x.id, .I x.obv, .I x.rev]), (30, .c (LL l)), (31, .I k)], [(3, .box 47 [.I x.id, .I x.obv, .I x.rev]), (22, .arr 47 3 [])]⟩
def wtI11 (l : List Lk) (x : Lk) (k : Nat) : St := ⟨34, [(0, .c (LL l)), (3, .ptr 3 0), (5, .I k), (22, .own 22), (23, .c (LL l)), (24, .I k), (32, .c (.sl 3 ((l.map Lk.cd).drop k)))], [(3, .box 47 [.I x.id, .I x.obv, .I x.rev]), (22, .arr 47 3 [])]⟩
def wtI12 (l : List Lk) (x : Lk) (k : Nat) : St := ⟨34, [(0, .c (LL l)), (3, .ptr 3 0), (5, .I k), (25, .c (.sl 3 ((l.map Lk.cd).take k))), (27, .agg [.I x.id, .I x.obv, .I x.rev]), (30, .c (LL l)), (31, .I k)], [(3, .box 47 [.I x.id, .I x.obv, .I x.rev])]⟩
def wtI13 (l : List Lk) (x : Lk) (k : Nat) : St := ⟨34, [(0, .c (LL l)), (3, .ptr 3 0), (5, .I k), (25, .c (.sl 3 ((l.map Lk.cd).take k))), (32, .c (.sl 3 ((l.map Lk.cd).drop k)))], [(3, .box 47 [.I x.id, .I x.obv, .I x.rev])]⟩
def wtI15 (l : List Lk) (x : Lk) (k : Nat) : St := ⟨34, [(0, .c (LL l)), (3, .ptr 3 0), (5, .I k), (23, .c (LL l)), (24, .I k), (27, .agg [.I x.id, .I x.obv, .I x.rev]), (32, .c (.sl 3 ((l.map Lk.cd).drop k)))], [(3, .box 47 [.I x.id, .I x.obv, .I x.rev])]⟩
def wtI17 (l : List Lk) (x : Lk) (k : Nat) : St := ⟨34, [(0, .c (LL l)), (3, .ptr 3 0), (5, .I k), (22, .own 22), (25, .c (.sl 3 ((l.map Lk.cd).take k))), (27, .agg [.I x.id, .I x.obv, .I x.rev]), (30, .c (LL l)), (31, .I k)], [(3, .box 47 [.I x.id, .I x.obv, .I x.rev]), (22, .arr 47 3 [])]⟩
def wtI18 (l : List Lk) (x : Lk) (k : Nat) : St := ⟨34, [(0, .c (LL l)), (3, .ptr 3 0), (5, .I k), (22, .own 22), (25, .c (.sl 3 ((l.map Lk.cd).take k))), (32, .c (.sl 3 ((l.map Lk.cd).drop k)))], [(3, .box 47 [.I x.id, .I x.obv, .I x.rev]), (22, .arr 47 3 [])]⟩
def wtI19 (l : List Lk) (x : Lk) (k : Nat) : St := ⟨34, [(0, .c (LL l)), (3, .ptr 3 0), (5, .I k), (22, .own 22), (23, .c (LL l)), (24, .I k), (28, .own 28), (30, .c (LL l)), (31, .I k)], [(3, .box 47 [.I x.id, .I x.obv, .I x.rev]), (22, .arr 47 3 []), (28, .arr 47 3 [[.I x.id, .I x.obv, .I x.rev]])]⟩
def wtI20 (l : List Lk) (x : Lk) (k : Nat) : St := ⟨34, [(0, .c (LL l)), (3, .ptr 3 0), (5, .I k), (22, .own 22), (23, .c (LL l)), (24, .I k), (27, .agg [.I x.id, .I x.obv, .I x.rev]), (32, .c (.sl 3 ((l.map Lk.cd).drop k)))], [(3, .box 47 [.I x.id, .I x.obv, .I x.rev]), (22, .arr 47 3 [])]⟩
def wtI21 (l : List Lk) (x : Lk) (k : Nat) : St := ⟨34, [(0, .c (LL l)), (3, .ptr 3 0), (5, .I k), (25, .c (.sl 3 ((l.map Lk.cd).take k))), (28, .own 28), (30, .c (LL l)), (31, .I k)], [(3, .box 47 [.I x.id, .I x.obv, .I x.rev]), (28, .arr 47 3 [[.I x.id, .I x.obv, .I x.rev]])]⟩
def wtI22 (l : List Lk) (x : Lk) (k : Nat) : St := ⟨34, [(0, .c (LL l)), (3, .ptr 3 0), (5, .I k), (25, .c (.sl 3 ((l.map Lk.cd).take k))), (27, .agg [.I x.id, .I x.obv, .I x.rev]), (32, .c (.sl 3 ((l.map Lk.cd).drop k)))], [(3, .box 47 [.I x.id, .I x.obv, .I x.rev])]⟩
def wtI23 (l : List Lk) (x : Lk) (k : Nat) : St := ⟨34, [(0, .c (LL l)), (3, .ptr 3 0), (5, .I k), (23, .c (LL l)), (24, .I k), (28, .own 28), (32, .c (.sl 3 ((l.map Lk.cd).drop k)))], [(3, .box 47 [.I x.id, .I x.obv, .I x.rev]), (28, .arr 47 3 [[.I x.id, .I x.obv, .I x.rev]])]⟩
def wtI24 (l : List Lk) (x : Lk) (k : Nat) : St := ⟨34, [(0, .c (LL l)), (3, .ptr 3 0), (5, .I k), (26, .own 22), (27, .agg [.I x.id, .I x.obv, .I x.rev]), (30, .c (LL l)), (31, .I k)], [(3, .box 47 [.I x.id, .I x.obv, .I x.rev]), (22, .arr 47 3 ((l.map Lk.cd).take k))]⟩
def wtI25 (l : List Lk) (x : Lk) (k : Nat) : St := ⟨34, [(0, .c (LL l)), (3, .ptr 3 0), (5, .I k), (26, .own 22), (32, .c (.sl 3 ((l.map Lk.cd).drop k)))], [(3, .box 47 [.I x.id, .I x.obv, .I x.rev]), (22, .arr 47 3 ((l.map Lk.cd).take k))]⟩
def wtI26 (l : List Lk) (x : Lk) (k : Nat) : St := ⟨34, [(0, .c (LL l)), (3, .ptr 3 0), (5, .I k), (22, .own 22), (25, .c (.sl 3 ((l.map Lk.cd).take k))), (28, .own 28), (30, .c (LL l)), (31, .I k)], [(3, .box 47 [.I x.id, .I x.obv, .I x.rev]), (22, .arr 47 3 []), (28, .arr 47 3 [[.I x.id, .I x.obv, .I x.rev]])]⟩
def wtI27 (l : List Lk) (x : Lk) (k : Nat) : St := ⟨34, [(0, .c (LL l)), (3, .ptr 3 0), (5, .I k), (22, .own 22), (25, .c (.sl 3 ((l.map Lk.cd).take k))), (27, .agg [.I x.id, .I x.obv, .I x.rev]), (32, .c (.sl 3 ((l.map Lk.cd).drop k)))], [(3, .box 47 [.I x.id, .I x.obv, .I x.rev]), (22, .arr 47 3 [])]⟩
def wtI28 (l : List Lk) (x : Lk) (k : Nat) : St := ⟨34, [(0, .c (LL l)), (3, .ptr 3 0), (5, .I k), (22, .own 22), (23, .c (LL l)), (24, .I k), (28, .own 28), (32, .c (.sl 3 ((l.map Lk.cd).drop k)))], [(3, .box 47 [.I x.id, .I x.obv, .I x.rev]), (22, .arr 47 3 []), (28, .arr 47 3 [[.I x.id, .I x.obv, .I x.rev]])]⟩
def wtI29 (l : List Lk) (x : Lk) (k : Nat) : St := ⟨34, [(0, .c (LL l)), (3, .ptr 3 0), (5, .I k), (25, .c (.sl 3 ((l.map Lk.cd).take k))), (28, .own 28), (32, .c (.sl 3 ((l.map Lk.cd).drop k)))], [(3, .box 47 [.I x.id, .I x.obv, .I x.rev]), (28, .arr 47 3 [[.I x.id, .I x.obv, .I x.rev]])]⟩
def wtI30 (l : List Lk) (x : Lk) (k : Nat) : St := ⟨34, [(0, .c (LL l)), (3, .ptr 3 0), (5, .I k), (26, .own 22), (28, .own 28), (30, .c (LL l)), (31, .I k)], [(3, .box 47 [.I x.id, .I x.obv, .I x.rev]), (22, .arr 47 3 ((l.map Lk.cd).take k)), (28, .arr 47 3 [[.I x.id, .I x.obv, .I x.rev]])]⟩
def wtI31 (l : List Lk) (x : Lk) (k : Nat) : St := ⟨34, [(0, .c (LL l)), (3, .ptr 3 0), (5, .I k), (26, .own 22), (27, .agg [.I x.id, .I x.obv, .I x.rev]), (32, .c (.sl 3 ((l.map Lk.cd).drop k)))], [(3, .box 47 [.I x.id, .I x.obv, .I x.rev]), (22, .arr 47 3 ((l.map Lk.cd).take k))]⟩
def wtI32 (l : List Lk) (x : Lk) (k : Nat) : St := ⟨34, [(0, .c (LL l)), (3, .ptr 3 0), (5, .I k), (22, .own 22), (25, .c (.sl 3 ((l.map Lk.cd).take k))), (28, .own 28), (32, .c (.sl 3 ((l.map Lk.cd).drop k)))], [(3, .box 47 [.I x.id, .I x.obv, .I x.rev]), (22, .arr 47 3 []), (28, .arr 47 3 [[.I x.id, .I x.obv, .I x.rev]])]⟩
def wtI34 (l : List Lk) (x : Lk) (k : Nat) : St := ⟨34, [(0, .c (LL l)), (3, .ptr 3 0), (5, .I k), (26, .own 22), (28, .own 28), (32, .c (.sl 3 ((l.map Lk.cd).drop k)))], [(3, .box 47 [.I x.id, .I x.obv, .I x.rev]), (22, .arr 47 3 ((l.map Lk.cd).take k)), (28, .arr 47 3 [[.I x.id, .I x.obv, .I x.rev]])]⟩
def wtI35 (l : List Lk) (x : Lk) (k : Nat) : St := ⟨34, [(0, .c (LL l)), (3, .ptr 3 0), (5, .I k), (29, .own 22), (32, .c (.sl 3 ((l.map Lk.cd).drop k)))], [(3, .box 47 [.I x.id, .I x.obv, .I x.rev]), (22, .arr 47 3 ((l.map Lk.cd).take k ++ [[.I x.id, .I x.obv, .I x.rev]])), (28, .arr 47 3 [[.I x.id, .I x.obv, .I x.rev]])]⟩
def wtI (l : List Lk) (x : Lk) (k : Nat) : List (Nat × St) := [(9, wtI9 l x k), (10, wtI10 l x k), (11, wtI11 l x k), (12, wtI12 l x k), (13, wtI13 l x k), (15, wtI15 l x k), (17, wtI17 l x k), (18, wtI18 l x k), (19, wtI19 l x k), (20, wtI20 l x k), (21, wtI21 l x k), (22, wtI22 l x k), (23, wtI23 l x k), (24, wtI24 l x k), (25, wtI25 l x k), (26, wtI26 l x k), (27, wtI27 l x k), (28, wtI28 l x k), (29, wtI29 l x k), (30, wtI30 l x k), (31, wtI31 l x k), (32, wtI32 l x k), (34, wtI34 l x k), (35, wtI35 l x k)]
def wtIG : List GN := [.one 1 1, .one 2 2, .one 8 3, .one 9 4, .all [(0, 5), (3, 6), (5, 7), (10, 8)], .all [(3, 9), (5, 10), (10, 11)], .all [(0, 9), (5, 12), (10, 13)], .all [(0, 10), (3, 12), (6, 14), (10, 15)], .all [(0, 11), (3, 13), (5, 15)], .all [(4, 16), (5, 17), (10, 18)], .all [(3, 17), (6, 19), (10, 20)], .all [(3, 18), (5, 20)], .all [(0, 17), (6, 21), (10, 22)], .all [(0, 18), (5, 22)], .all [(0, 19), (3, 21), (10, 23)], .all [(0, 20), (3, 22), (6, 23)], .all [(5, 24), (10, 25)], .all [(4, 24), (6, 26), (10, 27)], .all [(4, 25), (5, 27)], .all [(3, 26), (10, 28)], .all [(3, 27), (6, 28)], .all [(0, 26), (10, 29)], .all [(0, 27), (6, 29)], .all [(0, 28), (3, 29)], .all [(6, 30), (10, 31)], .all [(5, 31)], .all [(4, 30), (10, 32)], .all [(4, 31), (6, 32)], .all [(3, 32)], .all [(0, 32)], .all [(7, 33), (10, 34)], .all [(6, 34)], .all [(4, 34)], .all [(10, 35)], .all [(7, 35)], .all [(11, 36)], .one 12 37, .fin]
abbrev wtIM : List Nat := [0, 2, 6, 262, 774, 775, 782, 806, 1798, 783, 807, 1799, 814, 1806, 870, 1830, 799, 815, 1807, 871, 1831, 878, 1838, 1894, 831, 1823, 879, 1839, 1895, 1902, 895, 1855, 1903, 1023, 1919, 2047, 4095, 8191]
theorem wtIl0 (l : List Lk) (x : Lk) (k : Nat) : lookT 0 (wtI l x k) = none := rfl
theorem wtIg0 : nthG wtIG 0 = some (.one 1 1) := rfl
theorem wtIl1 (l : List Lk) (x : Lk) (k : Nat) : lookT 1 (wtI l x k) = none := rfl
theorem wtIg1 : nthG wtIG 1 = some (.one 2 2) := rfl
theorem wtIl2 (l : List Lk) (x : Lk) (k : Nat) : lookT 2 (wtI l x k) = none := rfl
theorem wtIg2 : nthG wtIG 2 = some (.one 8 3) := rfl
theorem wtIl3 (l : List Lk) (x : Lk) (k : Nat) : lookT 3 (wtI l x k) = none := rfl
theorem wtIg3 : nthG wtIG 3 = some (.one 9 4) := rfl
theorem wtIl4 (l : List Lk) (x : Lk) (k : Nat) : lookT 4 (wtI l x k) = none := rfl
theorem wtIg4 : nthG wtIG 4 = some (.all [(0, 5), (3, 6), (5, 7), (10, 8)]) := rfl
theorem wtIl5 (l : List Lk) (x : Lk) (k : Nat) : lookT 5 (wtI l x k) = none := rfl
theorem wtIg5 : nthG wtIG 5 = some (.all [(3, 9), (5, 10), (10, 11)]) := rfl
theorem wtIl6 (l : List Lk) (x : Lk) (k : Nat) : lookT 6 (wtI l x k) = none := rfl
theorem wtIg6 : nthG wtIG 6 = some (.all [(0, 9), (5, 12), (10, 13)]) := rfl
theorem wtIl7 (l : List Lk) (x : Lk) (k : Nat) : lookT 7 (wtI l x k) = none := rfl
theorem wtIg7 : nthG wtIG 7 = some (.all [(0, 10), (3, 12), (6, 14), (10, 15)]) := rfl
theorem wtIl8 (l : List Lk) (x : Lk) (k : Nat) : lookT 8 (wtI l x k) = none := rfl
theorem wtIg8 : nthG wtIG 8 = some (.all [(0, 11), (3, 13), (5, 15)]) := rfl
theorem wtIl9 (l : List Lk) (x : Lk) (k : Nat) : lookT 9 (wtI l x k) = some (wtI9 l x k) := rfl
theorem wtIg9 : nthG wtIG 9 = some (.all [(4, 16), (5, 17), (10, 18)]) := rfl
theorem wtIl10 (l : List Lk) (x : Lk) (k : Nat) : lookT 10 (wtI l x k) = some (wtI10 l x k) := rfl
theorem wtIg10 : nthG wtIG 10 = some (.all [(3, 17), (6, 19), (10, 20)]) := rfl
theorem wtIl11 (l : List Lk) (x : Lk) (k : Nat) : lookT 11 (wtI l x k) = some (wtI11 l x k) := rfl
theorem wtIg11 : nthG wtIG 11 = some (.all [(3, 18), (5, 20)]) := rfl
theorem wtIl12 (l : List Lk) (x : Lk) (k : Nat) : lookT 12 (wtI l x k) = some (wtI12 l x k) := rfl
theorem wtIg12 : nthG wtIG 12 = some (.all [(0, 17), (6, 21), (10, 22)]) := rfl
theorem wtIl13 (l : List Lk) (x : Lk) (k : Nat) : lookT 13 (wtI l x k) = some (wtI13 l x k) := rfl
theorem wtIg13 : nthG wtIG 13 = some (.all [(0, 18), (5, 22)]) := rfl
theorem wtIl14 (l : List Lk) (x : Lk) (k : Nat) : lookT 14 (wtI l x k) = none := rfl
theorem wtIg14 : nthG wtIG 14 = some (.all [(0, 19), (3, 21), (10, 23)]) := rfl
theorem wtIl15 (l : List Lk) (x : Lk) (k : Nat) : lookT 15 (wtI l x k) = some (wtI15 l x k) := rfl
theorem wtIg15 : nthG wtIG 15 = some (.all [(0, 20), (3, 22), (6, 23)]) := rfl
theorem wtIl16 (l : List Lk) (x : Lk) (k : Nat) : lookT 16 (wtI l x k) = none := rfl
theorem wtIg16 : nthG wtIG 16 = some (.all [(5, 24), (10, 25)]) := rfl
theorem wtIl17 (l : List Lk) (x : Lk) (k : Nat) : lookT 17 (wtI l x k) = some (wtI17 l x k) := rfl
theorem wtIg17 : nthG wtIG 17 = some (.all [(4, 24), (6, 26), (10, 27)]) := rfl
theorem wtIl18 (l : List Lk) (x : Lk) (k : Nat) : lookT 18 (wtI l x k) = some (wtI18 l x k) := rfl
theorem wtIg18 : nthG wtIG 18 = some (.all [(4, 25), (5, 27)]) := rfl
theorem wtIl19 (l : List Lk) (x : Lk) (k : Nat) : lookT 19 (wtI l x k) = some (wtI19 l x k) := rfl
theorem wtIg19 : nthG wtIG 19 = some (.all [(3, 26), (10, 28)]) := rfl
theorem wtIl20 (l : List Lk) (x : Lk) (k : Nat) : lookT 20 (wtI l x k) = some (wtI20 l x k) := rfl
theorem wtIg20 : nthG wtIG 20 = some (.all [(3, 27), (6, 28)]) := rfl
theorem wtIl21 (l : List Lk) (x : Lk) (k : Nat) : lookT 21 (wtI l x k) = some (wtI21 l x k) := rfl
theorem wtIg21 : nthG wtIG 21 = some (.all [(0, 26), (10, 29)]) := rfl
theorem wtIl22 (l : List Lk) (x : Lk) (k : Nat) : lookT 22 (wtI l x k) = some (wtI22 l x k) := rfl
theorem wtIg22 : nthG wtIG 22 = some (.all [(0, 27), (6, 29)]) := rfl
theorem wtIl23 (l : List Lk) (x : Lk) (k : Nat) : lookT 23 (wtI l x k) = some (wtI23 l x k) := rfl
theorem wtIg23 : nthG wtIG 23 = some (.all [(0, 28), (3, 29)]) := rfl
theorem wtIl24 (l : List Lk) (x : Lk) (k : Nat) : lookT 24 (wtI l x k) = some (wtI24 l x k) := rfl
theorem wtIg24 : nthG wtIG 24 = some (.all [(6, 30), (10, 31)]) := rfl
theorem wtIl25 (l : List Lk) (x : Lk) (k : Nat) : lookT 25 (wtI l x k) = some (wtI25 l x k) := rfl
theorem wtIg25 : nthG wtIG 25 = some (.all [(5, 31)]) := rfl
theorem wtIl26 (l : List Lk) (x : Lk) (k : Nat) : lookT 26 (wtI l x k) = some (wtI26 l x k) := rfl
theorem wtIg26 : nthG wtIG 26 = some (.all [(4, 30), (10, 32)]) := rfl
theorem wtIl27 (l : List Lk) (x : Lk) (k : Nat) : lookT 27 (wtI l x k) = some (wtI27 l x k) := rfl
theorem wtIg27 : nthG wtIG 27 = some (.all [(4, 31), (6, 32)]) := rfl
theorem wtIl28 (l : List Lk) (x : Lk) (k : Nat) : lookT 28 (wtI l x k) = some (wtI28 l x k) := rfl
theorem wtIg28 : nthG wtIG 28 = some (.all [(3, 32)]) := rfl
theorem wtIl29 (l : List Lk) (x : Lk) (k : Nat) : lookT 29 (wtI l x k) = some (wtI29 l x k) := rfl
theorem wtIg29 : nthG wtIG 29 = some (.all [(0, 32)]) := rfl
theorem wtIl30 (l : List Lk) (x : Lk) (k : Nat) : lookT 30 (wtI l x k) = some (wtI30 l x k) := rfl
theorem wtIg30 : nthG wtIG 30 = some (.all [(7, 33), (10, 34)]) := rfl
theorem wtIl31 (l : List Lk) (x : Lk) (k : Nat) : lookT 31 (wtI l x k) = some (wtI31 l x k) := rfl
theorem wtIg31 : nthG wtIG 31 = some (.all [(6, 34)]) := rfl
theorem wtIl32 (l : List Lk) (x : Lk) (k : Nat) : lookT 32 (wtI l x k) = some (wtI32 l x k) := rfl
theorem wtIg32 : nthG wtIG 32 = some (.all [(4, 34)]) := rfl
theorem wtIl33 (l : List Lk) (x : Lk) (k : Nat) : lookT 33 (wtI l x k) = none := rfl
theorem wtIg33 : nthG wtIG 33 = some (.all [(10, 35)]) := rfl
theorem wtIl34 (l : List Lk) (x : Lk) (k : Nat) : lookT 34 (wtI l x k) = some (wtI34 l x k) := rfl
theorem wtIg34 : nthG wtIG 34 = some (.all [(7, 35)]) := rfl
theorem wtIl35 (l : List Lk) (x : Lk) (k : Nat) : lookT 35 (wtI l x k) = some (wtI35 l x k) := rfl
theorem wtIg35 : nthG wtIG 35 = some (.all [(11, 36)]) := rfl
theorem wtIl36 (l : List Lk) (x : Lk) (k : Nat) : lookT 36 (wtI l x k) = none := rfl
theorem wtIg36 : nthG wtIG 36 = some (.one 12 37) := rfl
theorem wtIl37 (l : List Lk) (x : Lk) (k : Nat) : lookT 37 (wtI l x k) = none := rfl
theorem wtIg37 : nthG wtIG 37 = some (.fin) := rfl
theorem wtIs0 (P : Program) (K : St → Prop) (σ : St) : atS P K c47_11L 0 σ = sGuard P K σ (some 22) (.bslice 47 3 []) none (guardOf σ none) := rfl
theorem wtIs1 (P : Program) (K : St → Prop) (σ : St) : atS P K c47_11L 1 σ = sGuard P K σ (some 23) (.mv (.t 0)) none (guardOf σ none) := rfl
theorem wtIo1 (K : St → Prop) (σ : St) : atO K c47_11L 1 σ = SFg K σ (some 23) (.mv (.t 0)) none (guardOf σ none) := by unfold c47_11L; simp only [atO_zero, atO_succ]
theorem wtIs2 (P : Program) (K : St → Prop) (σ : St) : atS P K c47_11L 2 σ = sGuard P K σ (some 24) (.mv (.t 5)) none (guardOf σ none) := rfl
theorem wtIo2 (K : St → Prop) (σ : St) : atO K c47_11L 2 σ = SFg K σ (some 24) (.mv (.t 5)) none (guardOf σ none) := by unfold c47_11L; simp only [atO_zero, atO_succ]
theorem wtIs3 (P : Program) (K : St → Prop) (σ : St) : atS P K c47_11L 3 σ = sGuard P K σ (some 25) (.slc 3 (.t 23) none (some (.t 24))) none (guardOf σ none) := rfl
theorem wtIs4 (P : Program) (K : St → Prop) (σ : St) : atS P K c47_11L 4 σ = sGuard P K σ (some 26) (.app 47 3 24 (.t 22) (.t 25)) none (guardOf σ none) := rfl
theorem wtIs5 (P : Program) (K : St → Prop) (σ : St) : atS P K c47_11L 5 σ = sGuard P K σ (some 27) (.ld (some 3) (.t 3)) none (guardOf σ none) := rfl
theorem wtIs6 (P : Program) (K : St → Prop) (σ : St) : atS P K c47_11L 6 σ = sGuard P K σ (some 28) (.bslice 47 3 [(.t 27)]) none (guardOf σ none) := rfl
theorem wtIs7 (P : Program) (K : St → Prop) (σ : St) : atS P K c47_11L 7 σ = sGuard P K σ (some 29) (.app 47 3 24 (.t 26) (.t 28)) none (guardOf σ none) := rfl
theorem wtIs8 (P : Program) (K : St → Prop) (σ : St) : atS P K c47_11L 8 σ = sGuard P K σ (some 30) (.mv (.t 0)) none (guardOf σ none) := rfl
theorem wtIo8 (K : St → Prop) (σ : St) : atO K c47_11L 8 σ = SFg K σ (some 30) (.mv (.t 0)) none (guardOf σ none) := by unfold c47_11L; simp only [atO_zero, atO_succ]
theorem wtIs9 (P : Program) (K : St → Prop) (σ : St) : atS P K c47_11L 9 σ = sGuard P K σ (some 31) (.mv (.t 5)) none (guardOf σ none) := rfl
theorem wtIo9 (K : St → Prop) (σ : St) : atO K c47_11L 9 σ = SFg K σ (some 31) (.mv (.t 5)) none (guardOf σ none) := by unfold c47_11L; simp only [atO_zero, atO_succ]
theorem wtIs10 (P : Program) (K : St → Prop) (σ : St) : atS P K c47_11L 10 σ = sGuard P K σ (some 32) (.slc 3 (.t 30) (some (.t 31)) none) none (guardOf σ none) := rfl
theorem wtIs11 (P : Program) (K : St → Prop) (σ : St) : atS P K c47_11L 11 σ = sGuard P K σ (some 33) (.app 47 3 24 (.t 29) (.t 32)) none (guardOf σ none) := rfl
theorem wtIs12 (P : Program) (K : St → Prop) (σ : St) : atS P K c47_11L 12 σ = sGuard P K σ (some 4) (.mv (.t 33)) none (guardOf σ none) := rfl
theorem wtIo12 (K : St → Prop) (σ : St) : atO K c47_11L 12 σ = SFg K σ (some 4) (.mv (.t 33)) none (guardOf σ none) := by unfold c47_11L; simp only [atO_zero, atO_succ]
attribute [go_sem] wtI9 wtI10 wtI11 wtI12 wtI13 wtI15 wtI17 wtI18 wtI19 wtI20 wtI21 wtI22 wtI23 wtI24 wtI25 wtI26 wtI27 wtI28 wtI29 wtI30 wtI31 wtI32 wtI34 wtI35 wtIl0 wtIg0 wtIl1 wtIg1 wtIl2 wtIg2 wtIl3 wtIg3 wtIl4 wtIg4 wtIl5 wtIg5 wtIl6 wtIg6 wtIl7 wtIg7 wtIl8 wtIg8 wtIl9 wtIg9 wtIl10 wtIg10 wtIl11 wtIg11 wtIl12 wtIg12 wtIl13 wtIg13 wtIl14 wtIg14 wtIl15 wtIg15 wtIl16 wtIg16 wtIl17 wtIg17 wtIl18 wtIg18 wtIl19 wtIg19 wtIl20 wtIg20 wtIl21 wtIg21 wtIl22 wtIg22 wtIl23 wtIg23 wtIl24 wtIg24 wtIl25 wtIg25 wtIl26 wtIg26 wtIl27 wtIg27 wtIl28 wtIg28 wtIl29 wtIg29 wtIl30 wtIg30 wtIl31 wtIg31 wtIl32 wtIg32 wtIl33 wtIg33 wtIl34 wtIg34 wtIl35 wtIg35 wtIl36 wtIg36 wtIl37 wtIg37 wtIs0 wtIs1 wtIo1 wtIs2 wtIo2 wtIs3 wtIs4 wtIs5 wtIs6 wtIs7 wtIs8 wtIo8 wtIs9 wtIo9 wtIs10 wtIs11 wtIs12 wtIo12
set_option maxHeartbeats 40000000 in
theorem r47 (l : List Lk) (x : Lk) (k : Nat) (hk : k ≤ l.length) (hl : l.length ≤ 1000) : AW Try.prog c47_11 (cutQ (ou47 l x k)) (in47 l x k) := by
  refine AW_regG (wtI l x k) wtIM wtIG (by kernel_rfl) (by kernel_rfl) (Both.mk ?_ ?_)
  · unfold in47
    (repeat' (first | refine NextAt.mk (fun hc => ?_) (fun pre n v post hc hkey => ?_) | refine Sni.mk (fun hc => ?_) ?_ | refine Both.mk ?_ ?_ | refine AW_seq ?_ | refine AW_block ?_ | ((first | refine AW_reg ?_ | refine AW_cond ?_ | refine AW_skip ?_ | refine AW_exit ?_ | refine AW_ret ?_ | refine AW_regD (by kernel_rfl) ?_ | refine AW_regX (by kernel_rfl) ?_ | refine CallAtG.t (Eq.refl true) ?_ | refine CallAtG.f (Eq.refl false) ?_); try simp (disch := omega) only [go_sem, seval, reduceCtorEq, ↓reduceIte, beq_dec, Int.toNat_natCast, IntKind.signed, IntKind.bits, ou47, Lk.cd, List.length_map, List.length_append, List.length_take, List.length_drop, maxLen, List.append_assoc, List.cons_append, List.nil_append, take_mapL]) | refine And.intro (fun hc => (?_ : AW _ _ _ _)) (fun hc => (?_ : AW _ _ _ _)) | simp (disch := omega) only [go_sem, seval, reduceCtorEq, ↓reduceIte, beq_dec, Int.toNat_natCast, IntKind.signed, IntKind.bits, ou47, Lk.cd, List.length_map, List.length_append, List.length_take, List.length_drop, maxLen, List.append_assoc, List.cons_append, List.nil_append, take_mapL] | (refine And.intro ?_ ?_; focus (first | (intros; omega) | (intros; simp_all; done))) | refine And.intro (?_ : CallAt _ _ _ _ _ _ _ _) ?_ | refine And.intro (?_ : CallAt _ _ _ _ _ _ _ _ ∧ _) ?_ | refine And.intro (?_ : AW _ _ _ _) ?_ | fail))
    all_goals omega
  · unfold wtI
    (repeat' (first | refine NextAt.mk (fun hc => ?_) (fun pre n v post hc hkey => ?_) | refine Sni.mk (fun hc => ?_) ?_ | refine Both.mk ?_ ?_ | refine AW_seq ?_ | refine AW_block ?_ | ((first | refine AW_reg ?_ | refine AW_cond ?_ | refine AW_skip ?_ | refine AW_exit ?_ | refine AW_ret ?_ | refine AW_regD (by kernel_rfl) ?_ | refine AW_regX (by kernel_rfl) ?_ | refine CallAtG.t (Eq.refl true) ?_ | refine CallAtG.f (Eq.refl false) ?_); try simp (disch := omega) only [go_sem, seval, reduceCtorEq, ↓reduceIte, beq_dec, Int.toNat_natCast, IntKind.signed, IntKind.bits, ou47, Lk.cd, knotsP_nil, knotsP_cons, List.length_map, List.length_append, List.length_take, List.length_drop, maxLen, List.append_assoc, List.cons_append, List.nil_append, take_mapL]) | refine And.intro (fun hc => (?_ : AW _ _ _ _)) (fun hc => (?_ : AW _ _ _ _)) | simp (disch := omega) only [go_sem, seval, reduceCtorEq, ↓reduceIte, beq_dec, Int.toNat_natCast, IntKind.signed, IntKind.bits, ou47, Lk.cd, knotsP_nil, knotsP_cons, List.length_map, List.length_append, List.length_take, List.length_drop, maxLen, List.append_assoc, List.cons_append, List.nil_append, take_mapL] | (refine And.intro ?_ ?_; focus (first | (intros; omega) | (intros; simp_all; done))) | refine And.intro (?_ : CallAt _ _ _ _ _ _ _ _) ?_ | refine And.intro (?_ : CallAt _ _ _ _ _ _ _ _ ∧ _) ?_ | refine And.intro (?_ : AW _ _ _ _) ?_ | fail))
    all_goals omega
theorem hold47 {Q : Exit → St → Prop} {σ : St} (h : Hold (AW Try.prog c47_11 Q σ)) : AW Try.prog c47_11 Q σ := h.out
set_option maxHeartbeats 4000000 in
theorem f47 (l : List Lk) (x : Lk) (hl : l.length ≤ 1000) : FnR Try.prog 47 [.c (LL l), x.av] [.c (LL (insL l x))] := by
  refine fn_walk code47 (by simp) ?_
  (repeat' (first | refine NextAt.mk (fun hc => ?_) (fun pre n v post hc hkey => ?_) | refine Sni.mk (fun hc => ?_) ?_ | refine Both.mk ?_ ?_ | refine AW_seq ?_ | refine AW_block ?_ | ((first | refine AW_reg ?_ | refine AW_cond ?_ | refine AW_skip ?_ | refine AW_exit ?_ | refine AW_ret ?_ | refine AW_regD (by kernel_rfl) ?_ | refine AW_regX (by kernel_rfl) ?_ | refine CallAtG.t (Eq.refl true) ?_ | refine CallAtG.f (Eq.refl false) ?_); try simp (disch := omega) only [go_sem, seval, reduceCtorEq, ↓reduceIte, beq_dec, Int.toNat_natCast, IntKind.signed, IntKind.bits]) | refine And.intro (fun hc => (?_ : AW _ _ _ _)) (fun hc => (?_ : AW _ _ _ _)) | simp (disch := omega) only [go_sem, seval, reduceCtorEq, ↓reduceIte, beq_dec, Int.toNat_natCast, IntKind.signed, IntKind.bits] | (refine And.intro ?_ ?_; focus (first | (intros; omega) | (intros; simp_all; done))) | refine And.intro (?_ : CallAt _ _ _ _ _ _ _ _) ?_ | refine And.intro (?_ : CallAt _ _ _ _ _ _ _ _ ∧ _) ?_ | refine And.intro (?_ : AW _ _ _ _) ?_ | fail))
  refine AW_loopK [0, 3] [5, 6, 7, 8, 9, 10, 11, 12, 13, 14, 15, 16, 17, 18, 19, 20, 21] (fun i : Nat => i ≤ l.length ∧ i ≤ bfr (l.map Lk.id) x.id) (fun i => [(5, .I i)]) (fun _ => []) (fun i => l.length - i) 0 ⟨by omega, by omega⟩ ?_ ?_
  · simp (disch := omega) only [go_sem, seval, reduceCtorEq, ↓reduceIte, beq_dec, Int.toNat_natCast, IntKind.signed, IntKind.bits, Int.natCast_zero]
  · rintro i ⟨hi, hb⟩
    have fin : (i = l.length ∨ ¬ (nth l i).id < x.id) → insL l x = l.take i ++ x :: l.drop i := fun h => by
      have : i = bfr (l.map Lk.id) x.id := bfr_end (by simpa using hi) hb (by
        rcases Nat.lt_or_ge i l.length with hil | hil
        · rw [nth_mapI Lk.id l i hil]; rcases h with h | h
          · omega
          · exact .inr h
        · exact .inl (by simp; omega))
      unfold insL; rw [bfrL_eq, ← this]
    rcases Nat.lt_or_ge i l.length with hil | hil
    · have e1 : ((i : Int) < (l.length : Int)) = True := by simp; omega
      (repeat' (first | (with_reducible refine hold47 ?_; try simp (disch := omega) only [go_sem, seval, reduceCtorEq, ↓reduceIte, beq_dec, Int.toNat_natCast, IntKind.signed, IntKind.bits, getD_map Lk.cd, Lk.cd, List.length_map, e1]) | refine NextAt.mk (fun hc => ?_) (fun pre n v post hc hkey => ?_) | refine Sni.mk (fun hc => ?_) ?_ | refine Both.mk ?_ ?_ | refine AW_seq ?_ | refine AW_block ?_ | ((first | refine AW_reg ?_ | refine AW_cond ?_ | refine AW_skip ?_ | refine AW_exit ?_ | refine AW_ret ?_ | refine AW_regD (by kernel_rfl) ?_ | refine AW_regX (by kernel_rfl) ?_ | refine CallAtG.t (Eq.refl true) ?_ | refine CallAtG.f (Eq.refl false) ?_); try simp (disch := omega) only [go_sem, seval, reduceCtorEq, ↓reduceIte, beq_dec, Int.toNat_natCast, IntKind.signed, IntKind.bits, getD_map Lk.cd, Lk.cd, List.length_map, e1]) | refine And.intro (fun hc => (?_ : AW _ _ _ _)) (fun hc => (?_ : AW _ _ _ _)) | simp (disch := omega) only [go_sem, seval, reduceCtorEq, ↓reduceIte, beq_dec, Int.toNat_natCast, IntKind.signed, IntKind.bits, getD_map Lk.cd, Lk.cd, List.length_map, e1] | (refine And.intro ?_ ?_; focus (first | (intros; omega) | (intros; simp_all; done))) | refine And.intro (?_ : CallAt _ _ _ _ _ _ _ _) ?_ | refine And.intro (?_ : CallAt _ _ _ _ _ _ _ _ ∧ _) ?_ | refine And.intro (?_ : AW _ _ _ _) ?_ | fail))
      · refine .mk (i + 1) ⟨by omega, bfr_step (by simpa using hil) (by rw [nth_mapI Lk.id l i hil]; exact hc) hb⟩ (by omega) ?_
        simp (disch := omega) only [go_sem, seval, reduceCtorEq, ↓reduceIte, beq_dec, Int.toNat_natCast, IntKind.signed, IntKind.bits, Int.natCast_add, Int.natCast_one]
      · refine ⟨AW_cut (ou47 l x i) (in47 l x i) (r47 l x i hi hl) ?_ ?_⟩
        · unfold in47
          simp (disch := omega) only [go_sem, seval, reduceCtorEq, ↓reduceIte, beq_dec, Int.toNat_natCast, IntKind.signed, IntKind.bits]
        · unfold ou47
          rw [map_ins Lk.cd, ← fin (.inr (by assumption))]
          refine AW_frz [22] ?_
          (repeat' (first | refine NextAt.mk (fun hc => ?_) (fun pre n v post hc hkey => ?_) | refine Sni.mk (fun hc => ?_) ?_ | refine Both.mk ?_ ?_ | refine AW_seq ?_ | refine AW_block ?_ | ((first | refine AW_reg ?_ | refine AW_cond ?_ | refine AW_skip ?_ | refine AW_exit ?_ | refine AW_ret ?_ | refine AW_regD (by kernel_rfl) ?_ | refine AW_regX (by kernel_rfl) ?_ | refine CallAtG.t (Eq.refl true) ?_ | refine CallAtG.f (Eq.refl false) ?_); try simp (disch := omega) only [go_sem, seval, reduceCtorEq, ↓reduceIte, beq_dec, Int.toNat_natCast, IntKind.signed, IntKind.bits]) | refine And.intro (fun hc => (?_ : AW _ _ _ _)) (fun hc => (?_ : AW _ _ _ _)) | simp (disch := omega) only [go_sem, seval, reduceCtorEq, ↓reduceIte, beq_dec, Int.toNat_natCast, IntKind.signed, IntKind.bits] | (refine And.intro ?_ ?_; focus (first | (intros; omega) | (intros; simp_all; done))) | refine And.intro (?_ : CallAt _ _ _ _ _ _ _ _) ?_ | refine And.intro (?_ : CallAt _ _ _ _ _ _ _ _ ∧ _) ?_ | refine And.intro (?_ : AW _ _ _ _) ?_ | fail))
    · have e1 : ((i : Int) < (l.length : Int)) = False := by simp; omega
      have e2 : (l.map Lk.cd).getD i [] = [] := by simp [List.getD, List.getElem?_eq_none hil]
      (repeat' (first | (with_reducible refine hold47 ?_; try simp (disch := omega) only [go_sem, seval, reduceCtorEq, ↓reduceIte, beq_dec, Int.toNat_natCast, IntKind.signed, IntKind.bits, e2, List.length_map, e1, List.map_nil, List.headD_nil]) | refine NextAt.mk (fun hc => ?_) (fun pre n v post hc hkey => ?_) | refine Sni.mk (fun hc => ?_) ?_ | refine Both.mk ?_ ?_ | refine AW_seq ?_ | refine AW_block ?_ | ((first | refine AW_reg ?_ | refine AW_cond ?_ | refine AW_skip ?_ | refine AW_exit ?_ | refine AW_ret ?_ | refine AW_regD (by kernel_rfl) ?_ | refine AW_regX (by kernel_rfl) ?_ | refine CallAtG.t (Eq.refl true) ?_ | refine CallAtG.f (Eq.refl false) ?_); try simp (disch := omega) only [go_sem, seval, reduceCtorEq, ↓reduceIte, beq_dec, Int.toNat_natCast, IntKind.signed, IntKind.bits, e2, List.length_map, e1, List.map_nil, List.headD_nil]) | refine And.intro (fun hc => (?_ : AW _ _ _ _)) (fun hc => (?_ : AW _ _ _ _)) | simp (disch := omega) only [go_sem, seval, reduceCtorEq, ↓reduceIte, beq_dec, Int.toNat_natCast, IntKind.signed, IntKind.bits, e2, List.length_map, e1, List.map_nil, List.headD_nil] | (refine And.intro ?_ ?_; focus (first | (intros; omega) | (intros; simp_all; done))) | refine And.intro (?_ : CallAt _ _ _ _ _ _ _ _) ?_ | refine And.intro (?_ : CallAt _ _ _ _ _ _ _ _ ∧ _) ?_ | refine And.intro (?_ : AW _ _ _ _) ?_ | fail))
      refine ⟨AW_cut (ou47 l x i) (in47 l x i) (r47 l x i hi hl) ?_ ?_⟩
      · unfold in47
        simp (disch := omega) only [go_sem, seval, reduceCtorEq, ↓reduceIte, beq_dec, Int.toNat_natCast, IntKind.signed, IntKind.bits]
      · unfold ou47
        rw [map_ins Lk.cd, ← fin (.inl (by omega))]
        refine AW_frz [22] ?_
        (repeat' (first | refine NextAt.mk (fun hc => ?_) (fun pre n v post hc hkey => ?_) | refine Sni.mk (fun hc => ?_) ?_ | refine Both.mk ?_ ?_ | refine AW_seq ?_ | refine AW_block ?_ | ((first | refine AW_reg ?_ | refine AW_cond ?_ | refine AW_skip ?_ | refine AW_exit ?_ | refine AW_ret ?_ | refine AW_regD (by kernel_rfl) ?_ | refine AW_regX (by kernel_rfl) ?_ | refine CallAtG.t (Eq.refl true) ?_ | refine CallAtG.f (Eq.refl false) ?_); try simp (disch := omega) only [go_sem, seval, reduceCtorEq, ↓reduceIte, beq_dec, Int.toNat_natCast, IntKind.signed, IntKind.bits]) | refine And.intro (fun hc => (?_ : AW _ _ _ _)) (fun hc => (?_ : AW _ _ _ _)) | simp (disch := omega) only [go_sem, seval, reduceCtorEq, ↓reduceIte, beq_dec, Int.toNat_natCast, IntKind.signed, IntKind.bits] | (refine And.intro ?_ ?_; focus (first | (intros; omega) | (intros; simp_all; done))) | refine And.intro (?_ : CallAt _ _ _ _ _ _ _ _) ?_ | refine And.intro (?_ : CallAt _ _ _ _ _ _ _ _ ∧ _) ?_ | refine And.intro (?_ : AW _ _ _ _) ?_ | fail))
/-- the graph of links, made one by one -/
def mdI (ls : List Lk) : Gr := ls.foldl (fun g x => ⟨insA g.obv x.obv, insA g.rev x.rev, insL g.links x⟩) ⟨[], [], []⟩
theorem mdI_succ (ls : List Lk) (i : Nat) (h : i < ls.length) : mdI (ls.take (i + 1)) = ⟨insA (mdI (ls.take i)).obv (nth ls i).obv, insA (mdI (ls.take i)).rev (nth ls i).rev, insL (mdI (ls.take i)).links (nth ls i)⟩ := by
  unfold mdI
  rw [List.take_succ_eq_append_getElem h, List.foldl_append, nth_eq ls i h]; rfl
theorem insA_len (l : List Int) (x : Int) : (insA l x).length ≤ l.length + 1 := by
  unfold insA; split
  · omega
  · simp; omega
theorem insL_len (l : List Lk) (x : Lk) : (insL l x).length = l.length + 1 := by
  unfold insL
  have := (List.takeWhile_prefix (l := l) fun y => decide (y.id < x.id)).length_le
  simp [bfrL]; omega
theorem mdI_len (ls : List Lk) : ∀ i, i ≤ ls.length → (mdI (ls.take i)).obv.length ≤ i ∧ (mdI (ls.take i)).rev.length ≤ i ∧ (mdI (ls.take i)).links.length = i
  | 0, _ => by simp [mdI]
  | i + 1, h => by
    obtain ⟨a, b, c⟩ := mdI_len ls i (by omega)
    rw [mdI_succ ls i (by omega)]
    have h1 := insA_len (mdI (ls.take i)).obv (nth ls i).obv
    have h2 := insA_len (mdI (ls.take i)).rev (nth ls i).rev
    have h3 := insL_len (mdI (ls.take i)).links (nth ls i)
    exact ⟨by simp only; omega, by simp only; omega, by simp only; omega⟩
set_option maxHeartbeats 8000000 in
theorem f28 (ls : List Lk) (hl : ls.length ≤ 64) : FnR Try.prog 28 [.c (LL ls)] [.agg [Row (mdI ls).obv, Row (mdI ls).rev, LL (mdI ls).links]] := by
  refine fn_walk code28 (by simp) ?_
  (repeat' (first | refine NextAt.mk (fun hc => ?_) (fun pre n v post hc hkey => ?_) | refine Sni.mk (fun hc => ?_) ?_ | refine Both.mk ?_ ?_ | refine AW_seq ?_ | refine AW_block ?_ | ((first | refine AW_reg ?_ | refine AW_cond ?_ | refine AW_skip ?_ | refine AW_exit ?_ | refine AW_ret ?_ | refine AW_regD (by kernel_rfl) ?_ | refine AW_regX (by kernel_rfl) ?_ | refine CallAtG.t (Eq.refl true) ?_ | refine CallAtG.f (Eq.refl false) ?_); try simp (disch := omega) only [go_sem, seval, reduceCtorEq, ↓reduceIte, beq_dec, Int.toNat_natCast, IntKind.signed, IntKind.bits]) | refine And.intro (fun hc => (?_ : AW _ _ _ _)) (fun hc => (?_ : AW _ _ _ _)) | simp (disch := omega) only [go_sem, seval, reduceCtorEq, ↓reduceIte, beq_dec, Int.toNat_natCast, IntKind.signed, IntKind.bits] | (refine And.intro ?_ ?_; focus (first | (intros; omega) | (intros; simp_all; done))) | refine And.intro (?_ : CallAt _ _ _ _ _ _ _ _) ?_ | refine And.intro (?_ : CallAt _ _ _ _ _ _ _ _ ∧ _) ?_ | refine And.intro (?_ : AW _ _ _ _) ?_ | fail))
  refine AW_nilB 3 0 900 3 1 25 _ (by rfl) (by rfl) ?_
  simp (disch := omega) only [go_sem, seval, reduceCtorEq, ↓reduceIte, beq_dec, Int.toNat_natCast, IntKind.signed, IntKind.bits]
  refine AW_nilB 3 1 901 3 1 25 _ (by rfl) (by rfl) ?_
  simp (disch := omega) only [go_sem, seval, reduceCtorEq, ↓reduceIte, beq_dec, Int.toNat_natCast, IntKind.signed, IntKind.bits]
  refine AW_nilB 3 2 902 47 3 25 _ (by rfl) (by rfl) ?_
  simp (disch := omega) only [go_sem, seval, reduceCtorEq, ↓reduceIte, beq_dec, Int.toNat_natCast, IntKind.signed, IntKind.bits]
  refine AW_frz [900, 901, 902] ?_
  simp (disch := omega) only [go_sem, seval, reduceCtorEq, ↓reduceIte, beq_dec, Int.toNat_natCast, IntKind.signed, IntKind.bits]
  refine AW_loopK [0, 2, 3] [4, 5, 6, 7, 8, 9, 10, 11, 12, 13, 14, 15, 16, 17, 18, 19, 20, 21, 22, 23, 24, 25, 26, 27, 28, 29, 30, 31, 32, 33, 34, 35, 36] (fun i : Nat => i ≤ ls.length) (fun i => [(4, .I i)]) (fun i => [(3, .box 25 [.c (Row (mdI (ls.take i)).obv), .c (Row (mdI (ls.take i)).rev), .c (LL (mdI (ls.take i)).links)])]) (fun i => ls.length - i) 0 (by omega) ?_ ?_
  · simp (disch := omega) only [go_sem, seval, reduceCtorEq, ↓reduceIte, beq_dec, Int.toNat_natCast, IntKind.signed, IntKind.bits, Int.natCast_zero, List.take_zero, mdI, List.foldl_nil, List.map_nil]
    rfl
  · intro i hi
    obtain ⟨a, b, c⟩ := mdI_len ls i hi
    have ga := fun x => f46 (mdI (ls.take i)).obv x (by omega)
    have gb := fun x => f46 (mdI (ls.take i)).rev x (by omega)
    have gc := fun x => f47 (mdI (ls.take i)).links x (by omega)
    rcases Nat.lt_or_ge i ls.length with hil | hil
    · have hsuc := mdI_succ ls i hil
      generalize mdI (ls.take i) = q at *
      (repeat' (first | refine NextAt.mk (fun hc => ?_) (fun pre n v post hc hkey => ?_) | refine Sni.mk (fun hc => ?_) ?_ | refine Both.mk ?_ ?_ | refine AW_seq ?_ | refine AW_block ?_ | ((first | refine AW_reg ?_ | refine AW_cond ?_ | refine AW_skip ?_ | refine AW_exit ?_ | refine AW_ret ?_ | refine AW_regD (by kernel_rfl) ?_ | refine AW_regX (by kernel_rfl) ?_ | refine CallAtG.t (Eq.refl true) ?_ | refine CallAtG.f (Eq.refl false) ?_ | refine CallAt.mk _ (ga ..) (by first | (intro h; cases h; done) | (intro _; repeat' (first | exact List.forall_mem_nil _ | trivial | refine List.forall_mem_cons.2 ⟨?_, ?_⟩)) | (intro _; simp [RV.flatP, CD.flatP, getD_map Lk.cd, Lk.cd, List.length_map]; done)) ?_ | refine CallAtG.mk _ (fun _ => ga ..) ?_ | refine CallDS.mk _ (by simp [RV.data]) (fun _ => ga ..) (by first | (intro h; cases h; done) | (intro _; repeat' (first | exact List.forall_mem_nil _ | trivial | refine List.forall_mem_cons.2 ⟨?_, ?_⟩)) | (intro _; simp [RV.flatP, CD.flatP, getD_map Lk.cd, Lk.cd, List.length_map]; done)) ?_ | refine CallAt.mk _ (gb ..) (by first | (intro h; cases h; done) | (intro _; repeat' (first | exact List.forall_mem_nil _ | trivial | refine List.forall_mem_cons.2 ⟨?_, ?_⟩)) | (intro _; simp [RV.flatP, CD.flatP, getD_map Lk.cd, Lk.cd, List.length_map]; done)) ?_ | refine CallAtG.mk _ (fun _ => gb ..) ?_ | refine CallDS.mk _ (by simp [RV.data]) (fun _ => gb ..) (by first | (intro h; cases h; done) | (intro _; repeat' (first | exact List.forall_mem_nil _ | trivial | refine List.forall_mem_cons.2 ⟨?_, ?_⟩)) | (intro _; simp [RV.flatP, CD.flatP, getD_map Lk.cd, Lk.cd, List.length_map]; done)) ?_ | refine CallAt.mk _ (gc ..) (by first | (intro h; cases h; done) | (intro _; repeat' (first | exact List.forall_mem_nil _ | trivial | refine List.forall_mem_cons.2 ⟨?_, ?_⟩)) | (intro _; simp [RV.flatP, CD.flatP, getD_map Lk.cd, Lk.cd, List.length_map]; done)) ?_ | refine CallAtG.mk _ (fun _ => gc ..) ?_ | refine CallDS.mk _ (by simp [RV.data]) (fun _ => gc ..) (by first | (intro h; cases h; done) | (intro _; repeat' (first | exact List.forall_mem_nil _ | trivial | refine List.forall_mem_cons.2 ⟨?_, ?_⟩)) | (intro _; simp [RV.flatP, CD.flatP, getD_map Lk.cd, Lk.cd, List.length_map]; done)) ?_); try simp (disch := omega) only [go_sem, seval, reduceCtorEq, ↓reduceIte, beq_dec, Int.toNat_natCast, IntKind.signed, IntKind.bits, getD_map Lk.cd, Lk.cd, List.length_map]) | refine And.intro (fun hc => (?_ : AW _ _ _ _)) (fun hc => (?_ : AW _ _ _ _)) | simp (disch := omega) only [go_sem, seval, reduceCtorEq, ↓reduceIte, beq_dec, Int.toNat_natCast, IntKind.signed, IntKind.bits, getD_map Lk.cd, Lk.cd, List.length_map] | (refine And.intro ?_ ?_; focus (first | (intros; omega) | (intros; simp_all; done))) | refine And.intro (?_ : CallAt _ _ _ _ _ _ _ _) ?_ | refine And.intro (?_ : CallAt _ _ _ _ _ _ _ _ ∧ _) ?_ | refine And.intro (?_ : AW _ _ _ _) ?_ | fail))
      all_goals first
        | (exfalso; omega)
        | (refine .mk (i + 1) (by omega) (by omega) ?_
           simp only [hsuc]
           simp (disch := omega) only [go_sem, seval, reduceCtorEq, ↓reduceIte, beq_dec, Int.toNat_natCast, IntKind.signed, IntKind.bits, Int.natCast_add, Int.natCast_one])
    · have hie : i = ls.length := by omega
      subst hie
      rw [List.take_length] at *
      (repeat' (first | refine NextAt.mk (fun hc => ?_) (fun pre n v post hc hkey => ?_) | refine Sni.mk (fun hc => ?_) ?_ | refine Both.mk ?_ ?_ | refine AW_seq ?_ | refine AW_block ?_ | ((first | refine AW_reg ?_ | refine AW_cond ?_ | refine AW_skip ?_ | refine AW_exit ?_ | refine AW_ret ?_ | refine AW_regD (by kernel_rfl) ?_ | refine AW_regX (by kernel_rfl) ?_ | refine CallAtG.t (Eq.refl true) ?_ | refine CallAtG.f (Eq.refl false) ?_); try simp (disch := omega) only [go_sem, seval, reduceCtorEq, ↓reduceIte, beq_dec, Int.toNat_natCast, IntKind.signed, IntKind.bits, List.length_map]) | refine And.intro (fun hc => (?_ : AW _ _ _ _)) (fun hc => (?_ : AW _ _ _ _)) | simp (disch := omega) only [go_sem, seval, reduceCtorEq, ↓reduceIte, beq_dec, Int.toNat_natCast, IntKind.signed, IntKind.bits, List.length_map] | (refine And.intro ?_ ?_; focus (first | (intros; omega) | (intros; simp_all; done))) | refine And.intro (?_ : CallAt _ _ _ _ _ _ _ _) ?_ | refine And.intro (?_ : CallAt _ _ _ _ _ _ _ _ ∧ _) ?_ | refine And.intro (?_ : AW _ _ _ _) ?_ | fail))
      · exfalso; omega
      all_goals rfl
end Go.Proofs.Ytlomngideedobaa

