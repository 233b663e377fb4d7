/-
  Lemmas for the proof: no statement of its own.
-/
import Derived.Test.YtgldpbghbkoolaaWalkB
import Derived.Test.YtgldpbghbkoolaaPlainB
set_option linter.unusedVariables false
set_option linter.unusedSimpArgs false
-- P p_15.txt
open Go Go.AL Go.RowKit
namespace Go.Proofs.Ytgldpbghbkoolaa
set_option maxRecDepth 20000
theorem toNat_pred (i : Nat) : ((i : Int) - 1).toNat = i - 1 := by omega
def ascV (l : List Int) : Bool := decide (∀ i, i < l.length → 1 ≤ nth l i ∧ nth l i ≤ 999 ∧ (0 < i → nth l (i - 1) < nth l i))
def numV (l : List Int) : Bool := ascV l && decide (l.length ≤ 32)
theorem ascV_no {l : List Int} {i : Nat} (h : i < l.length) (hn : ¬ (1 ≤ nth l i ∧ nth l i ≤ 999 ∧ (0 < i → nth l (i - 1) < nth l i))) : ascV l = false := by
  unfold ascV; rw [decide_eq_false_iff_not]; exact fun h' => hn (h' i h)
theorem ascV_yes {l : List Int} (h : ∀ i, i < l.length → 1 ≤ nth l i ∧ nth l i ≤ 999 ∧ (0 < i → nth l (i - 1) < nth l i)) : ascV l = true := by
  unfold ascV; rw [decide_eq_true_eq]; exact h
theorem ascV_asc {l : List Int} (h : ascV l = true) : Asc l := by
  unfold ascV at h; rw [decide_eq_true_eq] at h
  exact asc_of fun i hi h0 => (h i hi).2.2 h0
theorem f50 (l : List Int) : FnR Try.prog 42 [.c (Row l)] [.c (.B (numV l))] := by
  refine FnR_len (pre := []) (post := []) (fnCode_callB code42) fun hl => ?_
  simp only [List.length_map, maxLen] at hl
  refine fn_walk code42 (by simp) ?_
  (repeat' (first | refine NextAt.mk (fun hc => ?_) (fun pre n v post hc hkey => ?_) | refine Sni.mk (fun hc => ?_) ?_ | refine Both.mk ?_ ?_ | refine AW_seq ?_ | refine AW_block ?_ | ((first | refine AW_reg ?_ | refine AW_cond ?_ | refine AW_skip ?_ | refine AW_exit ?_ | refine AW_ret ?_ | refine AW_regD (by kernel_rfl) ?_ | refine AW_regX (by kernel_rfl) ?_ | refine CallAtG.t (Eq.refl true) ?_ | refine CallAtG.f (Eq.refl false) ?_); try simp (disch := omega) only [go_sem, seval, reduceCtorEq, ↓reduceIte, beq_dec, Int.toNat_natCast, IntKind.signed, IntKind.bits]) | refine And.intro (fun hc => (?_ : AW _ _ _ _)) (fun hc => (?_ : AW _ _ _ _)) | simp (disch := omega) only [go_sem, seval, reduceCtorEq, ↓reduceIte, beq_dec, Int.toNat_natCast, IntKind.signed, IntKind.bits] | (refine And.intro ?_ ?_; focus (first | (intros; omega) | (intros; simp_all; done))) | refine And.intro (?_ : CallAt _ _ _ _ _ _ _ _) ?_ | refine And.intro (?_ : CallAt _ _ _ _ _ _ _ _ ∧ _) ?_ | refine And.intro (?_ : AW _ _ _ _) ?_ | fail))
  refine AW_loopK [0, 5, 6] [2, 3, 4, 7, 8, 9, 10, 11, 12, 13, 14, 15, 16, 17, 18, 19, 20, 21, 22, 23, 24, 25, 26, 27, 28, 29, 30, 31] (fun i : Nat => i ≤ l.length ∧ ∀ j, j < i → 1 ≤ nth l j ∧ nth l j ≤ 999 ∧ (0 < j → nth l (j - 1) < nth l j)) (fun i => [(7, .I i)]) (fun _ => []) (fun i => l.length - i) 0 ⟨by omega, by omega⟩ ?_ ?_
  · simp (disch := omega) only [go_sem, seval, reduceCtorEq, ↓reduceIte, beq_dec, Int.toNat_natCast, IntKind.signed, IntKind.bits, Int.natCast_zero]
  · rintro i ⟨hi, hb⟩
    (repeat' (first | refine NextAt.mk (fun hc => ?_) (fun pre n v post hc hkey => ?_) | refine Sni.mk (fun hc => ?_) ?_ | refine Both.mk ?_ ?_ | refine AW_seq ?_ | refine AW_block ?_ | ((first | refine AW_reg ?_ | refine AW_cond ?_ | refine AW_skip ?_ | refine AW_exit ?_ | refine AW_ret ?_ | refine AW_regD (by kernel_rfl) ?_ | refine AW_regX (by kernel_rfl) ?_ | refine CallAtG.t (Eq.refl true) ?_ | refine CallAtG.f (Eq.refl false) ?_); try simp (disch := omega) only [go_sem, seval, reduceCtorEq, ↓reduceIte, beq_dec, Int.toNat_natCast, IntKind.signed, IntKind.bits, getD_map (fun x : Int => [CD.I x]), toNat_pred]) | refine And.intro (fun hc => (?_ : AW _ _ _ _)) (fun hc => (?_ : AW _ _ _ _)) | simp (disch := omega) only [go_sem, seval, reduceCtorEq, ↓reduceIte, beq_dec, Int.toNat_natCast, IntKind.signed, IntKind.bits, getD_map (fun x : Int => [CD.I x]), toNat_pred] | (refine And.intro ?_ ?_; focus (first | (intros; omega) | (intros; simp_all; done))) | refine And.intro (?_ : CallAt _ _ _ _ _ _ _ _) ?_ | refine And.intro (?_ : CallAt _ _ _ _ _ _ _ _ ∧ _) ?_ | refine And.intro (?_ : AW _ _ _ _) ?_ | fail))
    · unfold numV
      rw [ascV_no (i := i) (by omega) (fun h => by omega)]; rfl
    · refine .mk (i + 1) ⟨by omega, step_lt hb ⟨by omega, by omega, by omega⟩⟩ (by omega) ?_
      simp (disch := omega) only [go_sem, seval, reduceCtorEq, ↓reduceIte, beq_dec, Int.toNat_natCast, IntKind.signed, IntKind.bits, Int.natCast_add, Int.natCast_one]
    · unfold numV
      rw [ascV_yes fun j hj => hb j (by omega), Bool.true_and, decide_eq_decide]; omega
theorem f51 (l : List Int) (x : Int) (ha : Asc l) (hl : l.length ≤ 1000) : FnR Try.prog 43 [.c (Row l), .I x] [.c (.B (decide (x ∈ l)))] := by
  have g62 := f62 l x ha hl
  refine fn_walk code43 (by simp) ?_
  (repeat' (first | refine NextAt.mk (fun hc => ?_) (fun pre n v post hc hkey => ?_) | refine Sni.mk (fun hc => ?_) ?_ | refine Both.mk ?_ ?_ | refine AW_seq ?_ | refine AW_block ?_ | ((first | refine AW_reg ?_ | refine AW_cond ?_ | refine AW_skip ?_ | refine AW_exit ?_ | refine AW_ret ?_ | refine AW_regD (by kernel_rfl) ?_ | refine AW_regX (by kernel_rfl) ?_ | refine CallAtG.t (Eq.refl true) ?_ | refine CallAtG.f (Eq.refl false) ?_ | refine CallAt.mk _ (g62 ..) (by first | (intro h; cases h; done) | (intro _; repeat' (first | exact List.forall_mem_nil _ | trivial | refine List.forall_mem_cons.2 ⟨?_, ?_⟩)) | (intro _; simp [RV.flatP, CD.flatP]; done)) ?_ | refine CallAtG.mk _ (fun _ => g62 ..) ?_ | refine CallDS.mk _ (by simp [RV.data]) (fun _ => g62 ..) (by first | (intro h; cases h; done) | (intro _; repeat' (first | exact List.forall_mem_nil _ | trivial | refine List.forall_mem_cons.2 ⟨?_, ?_⟩)) | (intro _; simp [RV.flatP, CD.flatP]; done)) ?_); try simp (disch := omega) only [go_sem, seval, reduceCtorEq, ↓reduceIte, beq_dec, Int.toNat_natCast, IntKind.signed, IntKind.bits]) | refine And.intro (fun hc => (?_ : AW _ _ _ _)) (fun hc => (?_ : AW _ _ _ _)) | simp (disch := omega) only [go_sem, seval, reduceCtorEq, ↓reduceIte, beq_dec, Int.toNat_natCast, IntKind.signed, IntKind.bits] | (refine And.intro ?_ ?_; focus (first | (intros; omega) | (intros; simp_all; done))) | refine And.intro (?_ : CallAt _ _ _ _ _ _ _ _) ?_ | refine And.intro (?_ : CallAt _ _ _ _ _ _ _ _ ∧ _) ?_ | refine And.intro (?_ : AW _ _ _ _) ?_ | fail))
def lkV (g : Gr) (i : Nat) : Prop := 1 ≤ (nth g.links i).id ∧ (nth g.links i).id ≤ 9999 ∧ (0 < i → (nth g.links (i - 1)).id < (nth g.links i).id) ∧ (nth g.links i).obv ∈ g.obv ∧ (nth g.links i).rev ∈ g.rev
instance (g : Gr) (i : Nat) : Decidable (lkV g i) := by unfold lkV; infer_instance
def validG (g : Gr) : Bool := numV g.obv && numV g.rev && decide (g.links.length ≤ 64 ∧ ∀ i, i < g.links.length → lkV g i) && decide ((∀ x ∈ g.obv, x ∈ g.links.map Lk.obv) ∧ ∀ x ∈ g.rev, x ∈ g.links.map Lk.rev)
theorem validG_no {g : Gr} {i : Nat} (h : i < g.links.length) (hn : ¬ lkV g i) : validG g = false := by
  unfold validG
  have : decide (g.links.length ≤ 64 ∧ ∀ i, i < g.links.length → lkV g i) = false := by
    rw [decide_eq_false_iff_not]; exact fun h' => hn (h'.2 i h)
  rw [this]; simp
theorem validG_iff (g : Gr) : validG g = true ↔ numV g.obv = true ∧ numV g.rev = true ∧ g.links.length ≤ 64 ∧ (∀ i, i < g.links.length → lkV g i) ∧ (∀ x ∈ g.obv, x ∈ g.links.map Lk.obv) ∧ ∀ x ∈ g.rev, x ∈ g.links.map Lk.rev := by
  unfold validG
  simp only [Bool.and_eq_true, decide_eq_true_eq]
  exact ⟨fun ⟨⟨⟨a, b⟩, c, d⟩, e, f⟩ => ⟨a, b, c, d, e, f⟩, fun ⟨a, b, c, d, e, f⟩ => ⟨⟨⟨a, b⟩, c, d⟩, e, f⟩⟩
/-- as many numbers as the list has: all of it -/
theorem cs_full {l m : List Int} (hm : Asc m) (hs : ∀ x ∈ l, x ∈ m) : (cs l).length = m.length ↔ ∀ x ∈ m, x ∈ l := by
  have hn : (cs l).Nodup := (cs_pw l).imp fun h e => by omega
  have hm' : m.Nodup := List.Pairwise.imp (fun h e => by omega) hm
  have h1 := nodup_le hn fun x hx => hs x (cs_mem.1 hx)
  constructor
  · intro he x hx
    by_cases hxl : x ∈ l
    · exact hxl
    · have h2 := nodup_le (l := x :: cs l) (m := m) (List.nodup_cons.2 ⟨fun h => hxl (cs_mem.1 h), hn⟩) fun y hy => by
        rcases List.mem_cons.1 hy with rfl | hy
        · exact hx
        · exact hs y (cs_mem.1 hy)
      simp at h2; omega
  · intro h
    have h2 := nodup_le hm' fun x hx => cs_mem.2 (h x hx)
    omega
theorem all_nth {α : Type} [Inhabited α] {l : List α} {p : α → Prop} (h : ∀ i, i < l.length → p (nth l i)) : ∀ x ∈ l, p x := fun x hx => by
  obtain ⟨i, hi, rfl⟩ := List.getElem_of_mem hx
  have := h i hi
  rwa [nth_eq l i hi] at this
set_option maxHeartbeats 2000000 in
theorem f32 (g : Gr) : FnR Try.prog 20 [g.av] [.c (.B (validG g))] := by
  by_cases hv : numV g.obv = true ∧ numV g.rev = true ∧ g.links.length ≤ 64
  · obtain ⟨h1, h2, h3⟩ := hv
    have a1 : Asc g.obv ∧ g.obv.length ≤ 32 := by unfold numV at h1; simp at h1; exact ⟨ascV_asc h1.1, h1.2⟩
    have a2 : Asc g.rev ∧ g.rev.length ≤ 32 := by unfold numV at h2; simp at h2; exact ⟨ascV_asc h2.1, h2.2⟩
    have g1 := fun x => f51 g.obv x a1.1 (by omega)
    have g2 := fun x => f51 g.rev x a2.1 (by omega)
    have g52 := f52 g.links h3
    refine fn_walk code20 (by simp) ?_
    (repeat' (first | refine NextAt.mk (fun hc => ?_) (fun pre n v post hc hkey => ?_) | refine Sni.mk (fun hc => ?_) ?_ | refine Both.mk ?_ ?_ | refine AW_seq ?_ | refine AW_block ?_ | ((first | refine AW_reg ?_ | refine AW_cond ?_ | refine AW_skip ?_ | refine AW_exit ?_ | refine AW_ret ?_ | refine AW_regD (by kernel_rfl) ?_ | refine AW_regX (by kernel_rfl) ?_ | refine CallAtG.t (Eq.refl true) ?_ | refine CallAtG.f (Eq.refl false) ?_ | refine CallAt.mk _ (f50 ..) (by first | (intro h; cases h; done) | (intro _; repeat' (first | exact List.forall_mem_nil _ | trivial | refine List.forall_mem_cons.2 ⟨?_, ?_⟩)) | (intro _; simp [RV.flatP, CD.flatP]; done)) ?_ | refine CallAtG.mk _ (fun _ => f50 ..) ?_ | refine CallDS.mk _ (by simp [RV.data]) (fun _ => f50 ..) (by first | (intro h; cases h; done) | (intro _; repeat' (first | exact List.forall_mem_nil _ | trivial | refine List.forall_mem_cons.2 ⟨?_, ?_⟩)) | (intro _; simp [RV.flatP, CD.flatP]; done)) ?_); try simp (disch := omega) only [go_sem, seval, reduceCtorEq, ↓reduceIte, beq_dec, Int.toNat_natCast, IntKind.signed, IntKind.bits]) | refine And.intro (fun hc => (?_ : AW _ _ _ _)) (fun hc => (?_ : AW _ _ _ _)) | simp (disch := omega) only [go_sem, seval, reduceCtorEq, ↓reduceIte, beq_dec, Int.toNat_natCast, IntKind.signed, IntKind.bits] | (refine And.intro ?_ ?_; focus (first | (intros; omega) | (intros; simp_all; done))) | refine And.intro (?_ : CallAt _ _ _ _ _ _ _ _) ?_ | refine And.intro (?_ : CallAt _ _ _ _ _ _ _ _ ∧ _) ?_ | refine And.intro (?_ : AW _ _ _ _) ?_ | fail))
    · exfalso
      rw [h1, h2] at hc
      simp at hc; omega
    refine AW_loopK [1, 23, 24] [2, 3, 4, 25, 26, 27, 28, 29, 30, 31, 32, 33, 34, 35, 36, 37, 38, 39, 40, 41, 42, 43, 44, 45, 46, 47, 48, 49, 50, 51, 52, 53, 54, 55, 56, 57, 58, 59, 60, 61, 62, 63, 64, 65, 66, 67, 68, 69, 70] (fun i : Nat => i ≤ g.links.length ∧ ∀ j, j < i → lkV g j) (fun i => [(25, .I i)]) (fun _ => []) (fun i => g.links.length - i) 0 ⟨by omega, by omega⟩ ?_ ?_
    · simp (disch := omega) only [go_sem, seval, reduceCtorEq, ↓reduceIte, beq_dec, Int.toNat_natCast, IntKind.signed, IntKind.bits, Int.natCast_zero]
    · rintro i ⟨hi, hb⟩
      (repeat' (first | refine NextAt.mk (fun hc => ?_) (fun pre n v post hc hkey => ?_) | refine Sni.mk (fun hc => ?_) ?_ | refine Both.mk ?_ ?_ | refine AW_seq ?_ | refine AW_block ?_ | ((first | refine AW_reg ?_ | refine AW_cond ?_ | refine AW_skip ?_ | refine AW_exit ?_ | refine AW_ret ?_ | refine AW_regD (by kernel_rfl) ?_ | refine AW_regX (by kernel_rfl) ?_ | refine CallAtG.t (Eq.refl true) ?_ | refine CallAtG.f (Eq.refl false) ?_ | refine CallAt.mk _ (g1 ..) (by first | (intro h; cases h; done) | (intro _; repeat' (first | exact List.forall_mem_nil _ | trivial | refine List.forall_mem_cons.2 ⟨?_, ?_⟩)) | (intro _; simp [RV.flatP, CD.flatP, getD_map Lk.cd, Lk.cd, toNat_pred]; done)) ?_ | refine CallAtG.mk _ (fun _ => g1 ..) ?_ | refine CallDS.mk _ (by simp [RV.data]) (fun _ => g1 ..) (by first | (intro h; cases h; done) | (intro _; repeat' (first | exact List.forall_mem_nil _ | trivial | refine List.forall_mem_cons.2 ⟨?_, ?_⟩)) | (intro _; simp [RV.flatP, CD.flatP, getD_map Lk.cd, Lk.cd, toNat_pred]; done)) ?_ | refine CallAt.mk _ (g2 ..) (by first | (intro h; cases h; done) | (intro _; repeat' (first | exact List.forall_mem_nil _ | trivial | refine List.forall_mem_cons.2 ⟨?_, ?_⟩)) | (intro _; simp [RV.flatP, CD.flatP, getD_map Lk.cd, Lk.cd, toNat_pred]; done)) ?_ | refine CallAtG.mk _ (fun _ => g2 ..) ?_ | refine CallDS.mk _ (by simp [RV.data]) (fun _ => g2 ..) (by first | (intro h; cases h; done) | (intro _; repeat' (first | exact List.forall_mem_nil _ | trivial | refine List.forall_mem_cons.2 ⟨?_, ?_⟩)) | (intro _; simp [RV.flatP, CD.flatP, getD_map Lk.cd, Lk.cd, toNat_pred]; done)) ?_ | refine CallAt.mk _ (g52 ..) (by first | (intro h; cases h; done) | (intro _; repeat' (first | exact List.forall_mem_nil _ | trivial | refine List.forall_mem_cons.2 ⟨?_, ?_⟩)) | (intro _; simp [RV.flatP, CD.flatP, getD_map Lk.cd, Lk.cd, toNat_pred]; done)) ?_ | refine CallAtG.mk _ (fun _ => g52 ..) ?_ | refine CallDS.mk _ (by simp [RV.data]) (fun _ => g52 ..) (by first | (intro h; cases h; done) | (intro _; repeat' (first | exact List.forall_mem_nil _ | trivial | refine List.forall_mem_cons.2 ⟨?_, ?_⟩)) | (intro _; simp [RV.flatP, CD.flatP, getD_map Lk.cd, Lk.cd, toNat_pred]; done)) ?_); try simp (disch := omega) only [go_sem, seval, reduceCtorEq, ↓reduceIte, beq_dec, Int.toNat_natCast, IntKind.signed, IntKind.bits, getD_map Lk.cd, Lk.cd, toNat_pred]) | refine And.intro (fun hc => (?_ : AW _ _ _ _)) (fun hc => (?_ : AW _ _ _ _)) | simp (disch := omega) only [go_sem, seval, reduceCtorEq, ↓reduceIte, beq_dec, Int.toNat_natCast, IntKind.signed, IntKind.bits, getD_map Lk.cd, Lk.cd, toNat_pred] | (refine And.intro ?_ ?_; focus (first | (intros; omega) | (intros; simp_all; done))) | refine And.intro (?_ : CallAt _ _ _ _ _ _ _ _) ?_ | refine And.intro (?_ : CallAt _ _ _ _ _ _ _ _ ∧ _) ?_ | refine And.intro (?_ : AW _ _ _ _) ?_ | fail))
      · rw [validG_no (i := i) (by omega)]
        rintro ⟨q1, q2, q3, q4, q5⟩
        rcases hc with (((hc | hc) | hc) | hc) | hc
        · omega
        · omega
        · have := q3 (by omega); omega
        · exact hc q4
        · exact hc q5
      · refine .mk (i + 1) ⟨by omega, step_lt hb ⟨by omega, by omega, fun h0 => by omega, hc.1.2, hc.2⟩⟩ (by omega) ?_
        simp (disch := omega) only [go_sem, seval, reduceCtorEq, ↓reduceIte, beq_dec, Int.toNat_natCast, IntKind.signed, IntKind.bits, Int.natCast_add, Int.natCast_one]
      · have hall : ∀ j, j < g.links.length → lkV g j := fun j hj => hb j (by omega)
        have hm := all_nth (p := fun l => l.obv ∈ g.obv ∧ l.rev ∈ g.rev) fun j hj => (hall j hj).2.2.2
        have e1 := cs_full (l := g.links.map Lk.obv) a1.1 fun x hx => by obtain ⟨l, hl, rfl⟩ := List.mem_map.1 hx; exact (hm l hl).1
        have e2 := cs_full (l := g.links.map Lk.rev) a2.1 fun x hx => by obtain ⟨l, hl, rfl⟩ := List.mem_map.1 hx; exact (hm l hl).2
        rw [Bool.eq_iff_iff, validG_iff]
        simp only [Bool.and_eq_true, decide_eq_true_eq, Int.natCast_inj]
        rw [e1, e2]
        exact ⟨fun ⟨p, q⟩ => ⟨h1, h2, h3, hall, p, q⟩, fun h => ⟨h.2.2.2.2.1, h.2.2.2.2.2⟩⟩
  · have : validG g = false := by
      cases h : validG g with
      | false => rfl
      | true => obtain ⟨a, b, c, _⟩ := (validG_iff g).1 h; exact absurd ⟨a, b, c⟩ hv
    rw [this]
    refine fn_walk code20 (by simp) ?_
    (repeat' (first | refine NextAt.mk (fun hc => ?_) (fun pre n v post hc hkey => ?_) | refine Sni.mk (fun hc => ?_) ?_ | refine Both.mk ?_ ?_ | refine AW_seq ?_ | refine AW_block ?_ | ((first | refine AW_reg ?_ | refine AW_cond ?_ | refine AW_skip ?_ | refine AW_exit ?_ | refine AW_ret ?_ | refine AW_regD (by kernel_rfl) ?_ | refine AW_regX (by kernel_rfl) ?_ | refine CallAtG.t (Eq.refl true) ?_ | refine CallAtG.f (Eq.refl false) ?_ | refine CallAt.mk _ (f50 ..) (by first | (intro h; cases h; done) | (intro _; repeat' (first | exact List.forall_mem_nil _ | trivial | refine List.forall_mem_cons.2 ⟨?_, ?_⟩)) | (intro _; simp [RV.flatP, CD.flatP]; done)) ?_ | refine CallAtG.mk _ (fun _ => f50 ..) ?_ | refine CallDS.mk _ (by simp [RV.data]) (fun _ => f50 ..) (by first | (intro h; cases h; done) | (intro _; repeat' (first | exact List.forall_mem_nil _ | trivial | refine List.forall_mem_cons.2 ⟨?_, ?_⟩)) | (intro _; simp [RV.flatP, CD.flatP]; done)) ?_); try simp (disch := omega) only [go_sem, seval, reduceCtorEq, ↓reduceIte, beq_dec, Int.toNat_natCast, IntKind.signed, IntKind.bits]) | refine And.intro (fun hc => (?_ : AW _ _ _ _)) (fun hc => (?_ : AW _ _ _ _)) | simp (disch := omega) only [go_sem, seval, reduceCtorEq, ↓reduceIte, beq_dec, Int.toNat_natCast, IntKind.signed, IntKind.bits] | (refine And.intro ?_ ?_; focus (first | (intros; omega) | (intros; simp_all; done))) | refine And.intro (?_ : CallAt _ _ _ _ _ _ _ _) ?_ | refine And.intro (?_ : CallAt _ _ _ _ _ _ _ _ ∧ _) ?_ | refine And.intro (?_ : AW _ _ _ _) ?_ | fail))
    exact absurd ⟨hc.1.1, hc.1.2, by omega⟩ hv
/-! ### the reference's check, and the dies -/
end Go.Proofs.Ytgldpbghbkoolaa

-- P p_15.txt
open Go Go.AL Go.RowKit
namespace Go.Proofs.Ytgldpbghbkoolaa
set_option maxRecDepth 20000
def diesV (g : Gr) : List Die := if validG g then diesG g else []
def errV (g : Gr) : Int := if validG g then 0 else 1
theorem take_map_d {α β : Type} [Inhabited α] (f : α → β) (l : List α) (i : Nat) (h : i < l.length) : (l.take (i + 1)).map f = (l.take i).map f ++ [f (nth l i)] := by
  rw [List.take_succ_eq_append_getElem h, nth_eq l i h, List.map_append]; rfl
abbrev oD (n : Int) : Die := ⟨0, n⟩
abbrev rD (n : Int) : Die := ⟨1, n⟩
theorem valid_small {g : Gr} (h : validG g = true) : g.obv.length ≤ 32 ∧ g.rev.length ≤ 32 ∧ g.links.length ≤ 64 := by
  obtain ⟨a, b, c, _⟩ := (validG_iff g).1 h
  unfold numV at a b
  simp only [Bool.and_eq_true, decide_eq_true_eq] at a b
  exact ⟨a.2, b.2, c⟩
set_option maxHeartbeats 2000000 in
theorem f41 (g : Gr) : FnR Try.prog 48 [g.av] [.own 27 2 ((diesV g).map Die.cd), .c (.I (errV g))] := by
  cases hv : validG g with
  | true =>
    obtain ⟨l1, l2, l3⟩ := valid_small hv
    have e1 : diesV g = diesG g := by unfold diesV; rw [hv]; rfl
    have e2 : errV g = 0 := by unfold errV; rw [hv]; rfl
    have g32 := f32 g
    rw [hv] at g32
    rw [e1, e2]
    refine fn_walk code48 (by simp) ?_
    (repeat' (first | refine NextAt.mk (fun hc => ?_) (fun pre n v post hc hkey => ?_) | refine Sni.mk (fun hc => ?_) ?_ | refine Both.mk ?_ ?_ | refine AW_seq ?_ | refine AW_block ?_ | ((first | refine AW_reg ?_ | refine AW_cond ?_ | refine AW_skip ?_ | refine AW_exit ?_ | refine AW_ret ?_ | refine AW_regD (by kernel_rfl) ?_ | refine AW_regX (by kernel_rfl) ?_ | refine CallAtG.t (Eq.refl true) ?_ | refine CallAtG.f (Eq.refl false) ?_ | refine CallAt.mk _ (g32 ..) (by first | (intro h; cases h; done) | (intro _; repeat' (first | exact List.forall_mem_nil _ | trivial | refine List.forall_mem_cons.2 ⟨?_, ?_⟩)) | (intro _; simp [RV.flatP, CD.flatP]; done)) ?_ | refine CallAtG.mk _ (fun _ => g32 ..) ?_ | refine CallDS.mk _ (by simp [RV.data]) (fun _ => g32 ..) (by first | (intro h; cases h; done) | (intro _; repeat' (first | exact List.forall_mem_nil _ | trivial | refine List.forall_mem_cons.2 ⟨?_, ?_⟩)) | (intro _; simp [RV.flatP, CD.flatP]; done)) ?_); try simp (disch := omega) only [go_sem, seval, reduceCtorEq, ↓reduceIte, beq_dec, Int.toNat_natCast, IntKind.signed, IntKind.bits]) | refine And.intro (fun hc => (?_ : AW _ _ _ _)) (fun hc => (?_ : AW _ _ _ _)) | simp (disch := omega) only [go_sem, seval, reduceCtorEq, ↓reduceIte, beq_dec, Int.toNat_natCast, IntKind.signed, IntKind.bits] | (refine And.intro ?_ ?_; focus (first | (intros; omega) | (intros; simp_all; done))) | refine And.intro (?_ : CallAt _ _ _ _ _ _ _ _) ?_ | refine And.intro (?_ : CallAt _ _ _ _ _ _ _ _ ∧ _) ?_ | refine And.intro (?_ : AW _ _ _ _) ?_ | fail))
    refine AW_nil 4 900 27 2 (by rfl) ?_
    refine AW_loopK [1, 13, 14] [4, 6, 15, 16, 17, 18, 19, 20, 21, 22, 23, 24] (fun i : Nat => i ≤ g.obv.length) (fun i => [(15, .I i), (4, .own 900)]) (fun i => [(900, .arr 27 2 (((g.obv.take i).map oD).map Die.cd))]) (fun i => g.obv.length - i) 0 (by omega) ?_ ?_
    · simp (disch := omega) only [go_sem, seval, reduceCtorEq, ↓reduceIte, beq_dec, Int.toNat_natCast, IntKind.signed, IntKind.bits, Int.natCast_zero, List.take_zero, List.map_nil]
    · intro i hi
      (repeat' (first | refine NextAt.mk (fun hc => ?_) (fun pre n v post hc hkey => ?_) | refine Sni.mk (fun hc => ?_) ?_ | refine Both.mk ?_ ?_ | refine AW_seq ?_ | refine AW_block ?_ | ((first | refine AW_reg ?_ | refine AW_cond ?_ | refine AW_skip ?_ | refine AW_exit ?_ | refine AW_ret ?_ | refine AW_regD (by kernel_rfl) ?_ | refine AW_regX (by kernel_rfl) ?_ | refine CallAtG.t (Eq.refl true) ?_ | refine CallAtG.f (Eq.refl false) ?_); try simp (disch := omega) only [go_sem, seval, reduceCtorEq, ↓reduceIte, beq_dec, Int.toNat_natCast, IntKind.signed, IntKind.bits, getD_map (fun x : Int => [CD.I x]), List.length_append, List.length_map, List.length_take, maxLen]) | refine And.intro (fun hc => (?_ : AW _ _ _ _)) (fun hc => (?_ : AW _ _ _ _)) | simp (disch := omega) only [go_sem, seval, reduceCtorEq, ↓reduceIte, beq_dec, Int.toNat_natCast, IntKind.signed, IntKind.bits, getD_map (fun x : Int => [CD.I x]), List.length_append, List.length_map, List.length_take, maxLen] | (refine And.intro ?_ ?_; focus (first | (intros; omega) | (intros; simp_all; done))) | refine And.intro (?_ : CallAt _ _ _ _ _ _ _ _) ?_ | refine And.intro (?_ : CallAt _ _ _ _ _ _ _ _ ∧ _) ?_ | refine And.intro (?_ : AW _ _ _ _) ?_ | fail))
      · refine .mk (i + 1) (by omega) (by omega) ?_
        rw [take_map_d oD _ i (by omega), List.map_append]
        simp (disch := omega) only [go_sem, seval, reduceCtorEq, ↓reduceIte, beq_dec, Int.toNat_natCast, IntKind.signed, IntKind.bits, Int.natCast_add, Int.natCast_one, List.map_cons, List.map_nil, Die.cd]
      · have hil : i = g.obv.length := by omega
        subst hil
        rw [List.take_length]
        refine AW_loopK [26, 27] [4, 8, 28, 29, 30, 31, 32, 33, 34, 35, 36, 37] (fun i : Nat => i ≤ g.rev.length) (fun i => [(28, .I i), (4, .own 900)]) (fun i => [(900, .arr 27 2 ((g.obv.map oD ++ (g.rev.take i).map rD).map Die.cd))]) (fun i => g.rev.length - i) 0 (by omega) ?_ ?_
        · simp (disch := omega) only [go_sem, seval, reduceCtorEq, ↓reduceIte, beq_dec, Int.toNat_natCast, IntKind.signed, IntKind.bits, Int.natCast_zero, List.take_zero, List.map_nil, List.append_nil]
        · intro k hk
          (repeat' (first | refine NextAt.mk (fun hc => ?_) (fun pre n v post hc hkey => ?_) | refine Sni.mk (fun hc => ?_) ?_ | refine Both.mk ?_ ?_ | refine AW_seq ?_ | refine AW_block ?_ | ((first | refine AW_reg ?_ | refine AW_cond ?_ | refine AW_skip ?_ | refine AW_exit ?_ | refine AW_ret ?_ | refine AW_regD (by kernel_rfl) ?_ | refine AW_regX (by kernel_rfl) ?_ | refine CallAtG.t (Eq.refl true) ?_ | refine CallAtG.f (Eq.refl false) ?_); try simp (disch := omega) only [go_sem, seval, reduceCtorEq, ↓reduceIte, beq_dec, Int.toNat_natCast, IntKind.signed, IntKind.bits, getD_map (fun x : Int => [CD.I x]), List.length_append, List.length_map, List.length_take, maxLen]) | refine And.intro (fun hc => (?_ : AW _ _ _ _)) (fun hc => (?_ : AW _ _ _ _)) | simp (disch := omega) only [go_sem, seval, reduceCtorEq, ↓reduceIte, beq_dec, Int.toNat_natCast, IntKind.signed, IntKind.bits, getD_map (fun x : Int => [CD.I x]), List.length_append, List.length_map, List.length_take, maxLen] | (refine And.intro ?_ ?_; focus (first | (intros; omega) | (intros; simp_all; done))) | refine And.intro (?_ : CallAt _ _ _ _ _ _ _ _) ?_ | refine And.intro (?_ : CallAt _ _ _ _ _ _ _ _ ∧ _) ?_ | refine And.intro (?_ : AW _ _ _ _) ?_ | fail))
          · refine .mk (k + 1) (by omega) (by omega) ?_
            rw [take_map_d rD _ k (by omega), ← List.append_assoc, List.map_append (l₁ := g.obv.map oD ++ _)]
            simp (disch := omega) only [go_sem, seval, reduceCtorEq, ↓reduceIte, beq_dec, Int.toNat_natCast, IntKind.signed, IntKind.bits, Int.natCast_add, Int.natCast_one, List.map_cons, List.map_nil, Die.cd]
          · have hkl : k = g.rev.length := by omega
            subst hkl
            rw [List.take_length]
            rfl
  | false =>
    have e1 : diesV g = [] := by unfold diesV; rw [hv]; rfl
    have e2 : errV g = 1 := by unfold errV; rw [hv]; rfl
    have g32 := f32 g
    rw [hv] at g32
    rw [e1, e2]
    refine fn_walk code48 (by simp) ?_
    (repeat' (first | refine NextAt.mk (fun hc => ?_) (fun pre n v post hc hkey => ?_) | refine Sni.mk (fun hc => ?_) ?_ | refine Both.mk ?_ ?_ | refine AW_seq ?_ | refine AW_block ?_ | ((first | refine AW_reg ?_ | refine AW_cond ?_ | refine AW_skip ?_ | refine AW_exit ?_ | refine AW_ret ?_ | refine AW_regD (by kernel_rfl) ?_ | refine AW_regX (by kernel_rfl) ?_ | refine CallAtG.t (Eq.refl true) ?_ | refine CallAtG.f (Eq.refl false) ?_ | refine CallAt.mk _ (g32 ..) (by first | (intro h; cases h; done) | (intro _; repeat' (first | exact List.forall_mem_nil _ | trivial | refine List.forall_mem_cons.2 ⟨?_, ?_⟩)) | (intro _; simp [RV.flatP, CD.flatP]; done)) ?_ | refine CallAtG.mk _ (fun _ => g32 ..) ?_ | refine CallDS.mk _ (by simp [RV.data]) (fun _ => g32 ..) (by first | (intro h; cases h; done) | (intro _; repeat' (first | exact List.forall_mem_nil _ | trivial | refine List.forall_mem_cons.2 ⟨?_, ?_⟩)) | (intro _; simp [RV.flatP, CD.flatP]; done)) ?_); try simp (disch := omega) only [go_sem, seval, reduceCtorEq, ↓reduceIte, beq_dec, Int.toNat_natCast, IntKind.signed, IntKind.bits]) | refine And.intro (fun hc => (?_ : AW _ _ _ _)) (fun hc => (?_ : AW _ _ _ _)) | simp (disch := omega) only [go_sem, seval, reduceCtorEq, ↓reduceIte, beq_dec, Int.toNat_natCast, IntKind.signed, IntKind.bits] | (refine And.intro ?_ ?_; focus (first | (intros; omega) | (intros; simp_all; done))) | refine And.intro (?_ : CallAt _ _ _ _ _ _ _ _) ?_ | refine And.intro (?_ : CallAt _ _ _ _ _ _ _ _ ∧ _) ?_ | refine And.intro (?_ : AW _ _ _ _) ?_ | fail))
end Go.Proofs.Ytgldpbghbkoolaa

