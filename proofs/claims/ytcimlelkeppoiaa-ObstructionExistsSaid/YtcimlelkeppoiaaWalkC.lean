/-
  Lemmas for the proof: no statement of its own.
-/
import Derived.Test.YtcimlelkeppoiaaCodeA
import Derived.Test.YtcimlelkeppoiaaAlD
import Derived.Shelf.Slices.Delete
import Derived.Shelf.Slices.Empties
import Derived.Ground.Names2Prog
import Derived.Test.YtcimlelkeppoiaaProg
set_option linter.unusedVariables false
set_option linter.unusedSimpArgs false
open Go Go.AL Go.RowKit
namespace Go.Proofs.Ytcimlelkeppoiaa
set_option maxRecDepth 20000
abbrev Row (l : List Int) : CD := .sl 1 (l.map fun x => [CD.I x])
abbrev Tab (t : List (List Int)) : CD := .sl 1 (t.map fun r => [Row r])
abbrev ORow (l : List Int) : RV := .own 3 1 (l.map fun x => [CD.I x])
abbrev OTab (t : List (List Int)) : RV := .own 25 1 (t.map fun r => [Row r])
def idx (l : List Int) (x : Int) : Int := if x ∈ l then (l.idxOf x : Int) else -1
theorem idx_found {l : List Int} {x : Int} {i : Nat} (hi : i < l.length) (h : nth l i = x) (hb : ∀ j, j < i → nth l j ≠ x) : idx l x = i := by
  have hm : x ∈ l := h ▸ nth_mem l i hi
  unfold idx
  rw [if_pos hm]
  have h1 : l.idxOf x < l.length := List.idxOf_lt_length_iff.2 hm
  have h2 : l[l.idxOf x] = x := List.getElem_idxOf h1
  have h3 : ¬ l.idxOf x < i := fun hl => hb _ hl (by rw [nth_eq l _ h1]; exact h2)
  have h4 : ¬ i < l.idxOf x := fun hl => by
    have := List.not_of_lt_findIdx (p := (· == x)) (xs := l) hl
    rw [nth_eq l i hi] at h
    simp [h] at this
  omega
theorem not_mem_nth {l : List Int} {x : Int} (h : ∀ j, j < l.length → nth l j ≠ x) : x ∉ l := by
  intro hm
  obtain ⟨j, hj, e⟩ := List.getElem_of_mem hm
  exact h j hj (by rw [nth_eq l j hj]; exact e)
theorem step_lt {p : Nat → Prop} {i : Nat} (h : ∀ j, j < i → p j) (hi : p i) : ∀ j, j < i + 1 → p j := fun j hj => by
  rcases Nat.lt_succ_iff_lt_or_eq.1 hj with h' | rfl
  · exact h j h'
  · exact hi
theorem f82 (l : List Int) (x : Int) : FnR Try.prog 42 [.c (Row l), .I x] [.c (.I (idx l x))] := by
  refine FnR_len (pre := []) (post := [.I x]) (fnCode_callB code42) fun hl => ?_
  simp only [List.length_map, maxLen] at hl
  refine fn_walk code42 (by simp) ?_
  (repeat' (first | refine NextAt.mk (fun hc => ?_) (fun pre n v post hc hkey => ?_) | refine Sni.mk (fun hc => ?_) ?_ | refine Both.mk ?_ ?_ | refine AW_seq ?_ | refine AW_block ?_ | ((first | refine AW_reg ?_ | refine AW_cond ?_ | refine AW_skip ?_ | refine AW_exit ?_ | refine AW_ret ?_ | refine AW_regD (by kernel_rfl) ?_ | refine AW_regX (by kernel_rfl) ?_ | refine CallAtG.t (Eq.refl true) ?_ | refine CallAtG.f (Eq.refl false) ?_); try simp (disch := omega) only [go_sem, seval, reduceCtorEq, ↓reduceIte, beq_dec, Int.toNat_natCast, IntKind.signed, IntKind.bits]) | refine And.intro (fun hc => (?_ : AW _ _ _ _)) (fun hc => (?_ : AW _ _ _ _)) | simp (disch := omega) only [go_sem, seval, reduceCtorEq, ↓reduceIte, beq_dec, Int.toNat_natCast, IntKind.signed, IntKind.bits] | (refine And.intro ?_ ?_; focus (first | (intros; omega) | (intros; simp_all; done))) | refine And.intro (?_ : CallAt _ _ _ _ _ _ _ _) ?_ | refine And.intro (?_ : CallAt _ _ _ _ _ _ _ _ ∧ _) ?_ | refine And.intro (?_ : AW _ _ _ _) ?_ | fail))
  refine AW_loopK [0, 1, 7] [4, 5, 8, 9, 10, 11, 12, 13, 14, 15, 16, 17, 18] (fun i : Nat => i ≤ l.length ∧ ∀ j, j < i → nth l j ≠ x) (fun i => [(8, .I i)]) (fun _ => []) (fun i => l.length - i) 0 ⟨by omega, by omega⟩ ?_ ?_
  · simp (disch := omega) only [go_sem, seval, reduceCtorEq, ↓reduceIte, beq_dec, Int.toNat_natCast, IntKind.signed, IntKind.bits, Int.natCast_zero]
  · rintro i ⟨hi, hb⟩
    (repeat' (first | refine NextAt.mk (fun hc => ?_) (fun pre n v post hc hkey => ?_) | refine Sni.mk (fun hc => ?_) ?_ | refine Both.mk ?_ ?_ | refine AW_seq ?_ | refine AW_block ?_ | ((first | refine AW_reg ?_ | refine AW_cond ?_ | refine AW_skip ?_ | refine AW_exit ?_ | refine AW_ret ?_ | refine AW_regD (by kernel_rfl) ?_ | refine AW_regX (by kernel_rfl) ?_ | refine CallAtG.t (Eq.refl true) ?_ | refine CallAtG.f (Eq.refl false) ?_); try simp (disch := omega) only [go_sem, seval, reduceCtorEq, ↓reduceIte, beq_dec, Int.toNat_natCast, IntKind.signed, IntKind.bits, getD_map (fun x : Int => [CD.I x])]) | refine And.intro (fun hc => (?_ : AW _ _ _ _)) (fun hc => (?_ : AW _ _ _ _)) | simp (disch := omega) only [go_sem, seval, reduceCtorEq, ↓reduceIte, beq_dec, Int.toNat_natCast, IntKind.signed, IntKind.bits, getD_map (fun x : Int => [CD.I x])] | (refine And.intro ?_ ?_; focus (first | (intros; omega) | (intros; simp_all; done))) | refine And.intro (?_ : CallAt _ _ _ _ _ _ _ _) ?_ | refine And.intro (?_ : CallAt _ _ _ _ _ _ _ _ ∧ _) ?_ | refine And.intro (?_ : AW _ _ _ _) ?_ | fail))
    · rw [idx_found (by omega) (by omega) hb]
    · refine .mk (i + 1) ⟨by omega, step_lt hb (by omega)⟩ (by omega) ?_
      simp (disch := omega) only [go_sem, seval, reduceCtorEq, ↓reduceIte, beq_dec, Int.toNat_natCast, IntKind.signed, IntKind.bits, Int.natCast_add, Int.natCast_one]
    · unfold idx
      rw [if_neg (not_mem_nth fun j hj => hb j (by omega))]
theorem f116 (l : List Int) (x : Int) : FnR Try.prog 49 [.c (Row l), .I x] [.c (.B (decide (x ∈ l)))] := by
  refine fn_walk code49 (by simp) ?_
  (repeat' (first | refine NextAt.mk (fun hc => ?_) (fun pre n v post hc hkey => ?_) | refine Sni.mk (fun hc => ?_) ?_ | refine Both.mk ?_ ?_ | refine AW_seq ?_ | refine AW_block ?_ | ((first | refine AW_reg ?_ | refine AW_cond ?_ | refine AW_skip ?_ | refine AW_exit ?_ | refine AW_ret ?_ | refine AW_regD (by kernel_rfl) ?_ | refine AW_regX (by kernel_rfl) ?_ | refine CallAtG.t (Eq.refl true) ?_ | refine CallAtG.f (Eq.refl false) ?_ | refine CallAt.mk _ (f82 ..) (by first | (intro h; cases h; done) | (intro _; repeat' (first | exact List.forall_mem_nil _ | trivial | refine List.forall_mem_cons.2 ⟨?_, ?_⟩)) | (intro _; simp [RV.flatP, CD.flatP]; done)) ?_ | refine CallAtG.mk _ (fun _ => f82 ..) ?_ | refine CallDS.mk _ (by simp [RV.data]) (fun _ => f82 ..) (by first | (intro h; cases h; done) | (intro _; repeat' (first | exact List.forall_mem_nil _ | trivial | refine List.forall_mem_cons.2 ⟨?_, ?_⟩)) | (intro _; simp [RV.flatP, CD.flatP]; done)) ?_); try simp (disch := omega) only [go_sem, seval, reduceCtorEq, ↓reduceIte, beq_dec, Int.toNat_natCast, IntKind.signed, IntKind.bits]) | refine And.intro (fun hc => (?_ : AW _ _ _ _)) (fun hc => (?_ : AW _ _ _ _)) | simp (disch := omega) only [go_sem, seval, reduceCtorEq, ↓reduceIte, beq_dec, Int.toNat_natCast, IntKind.signed, IntKind.bits] | (refine And.intro ?_ ?_; focus (first | (intros; omega) | (intros; simp_all; done))) | refine And.intro (?_ : CallAt _ _ _ _ _ _ _ _) ?_ | refine And.intro (?_ : CallAt _ _ _ _ _ _ _ _ ∧ _) ?_ | refine And.intro (?_ : AW _ _ _ _) ?_ | fail))
  unfold idx
  split <;> simp_all
theorem f96 (l : List Int) (hl : l.length ≤ 1000000) : FnR Try.prog 24 [.c (Row l)] [ORow l] := by
  refine fn_walk code24 (by simp) ?_
  (repeat' (first | refine NextAt.mk (fun hc => ?_) (fun pre n v post hc hkey => ?_) | refine Sni.mk (fun hc => ?_) ?_ | refine Both.mk ?_ ?_ | refine AW_seq ?_ | refine AW_block ?_ | ((first | refine AW_reg ?_ | refine AW_cond ?_ | refine AW_skip ?_ | refine AW_exit ?_ | refine AW_ret ?_ | refine AW_regD (by kernel_rfl) ?_ | refine AW_regX (by kernel_rfl) ?_ | refine CallAtG.t (Eq.refl true) ?_ | refine CallAtG.f (Eq.refl false) ?_); try simp (disch := omega) only [go_sem, seval, reduceCtorEq, ↓reduceIte, beq_dec, Int.toNat_natCast, IntKind.signed, IntKind.bits, maxLen]) | refine And.intro (fun hc => (?_ : AW _ _ _ _)) (fun hc => (?_ : AW _ _ _ _)) | simp (disch := omega) only [go_sem, seval, reduceCtorEq, ↓reduceIte, beq_dec, Int.toNat_natCast, IntKind.signed, IntKind.bits, maxLen] | (refine And.intro ?_ ?_; focus (first | (intros; omega) | (intros; simp_all; done))) | refine And.intro (?_ : CallAt _ _ _ _ _ _ _ _) ?_ | refine And.intro (?_ : CallAt _ _ _ _ _ _ _ _ ∧ _) ?_ | refine And.intro (?_ : AW _ _ _ _) ?_ | fail))
  assumption
def Asc (l : List Int) (lo hi : Int) (i : Nat) : Prop := lo ≤ nth l i ∧ nth l i ≤ hi ∧ (0 < i → nth l (i - 1) < nth l i)
instance (l : List Int) (lo hi : Int) (i : Nat) : Decidable (Asc l lo hi i) := by unfold Asc; infer_instance
def asc (l : List Int) (lo hi : Int) : Bool := decide (∀ i, i < l.length → Asc l lo hi i)
theorem toNat_pred (i : Nat) : ((i : Int) - 1).toNat = i - 1 := by omega
theorem asc_no {l : List Int} {lo hi : Int} {i : Nat} (h : i < l.length) (hn : ¬ Asc l lo hi i) : asc l lo hi = false := by
  unfold asc
  rw [decide_eq_false_iff_not]
  exact fun h' => hn (h' i h)
theorem f70 (l : List Int) (lo hi : Int) : FnR Try.prog 27 [.c (Row l), .I lo, .I hi] [.c (.B (asc l lo hi))] := by
  refine FnR_len (pre := []) (post := [.I lo, .I hi]) (fnCode_callB code27) fun hl => ?_
  simp only [List.length_map, maxLen] at hl
  refine fn_walk code27 (by simp) ?_
  (repeat' (first | refine NextAt.mk (fun hc => ?_) (fun pre n v post hc hkey => ?_) | refine Sni.mk (fun hc => ?_) ?_ | refine Both.mk ?_ ?_ | refine AW_seq ?_ | refine AW_block ?_ | ((first | refine AW_reg ?_ | refine AW_cond ?_ | refine AW_skip ?_ | refine AW_exit ?_ | refine AW_ret ?_ | refine AW_regD (by kernel_rfl) ?_ | refine AW_regX (by kernel_rfl) ?_ | refine CallAtG.t (Eq.refl true) ?_ | refine CallAtG.f (Eq.refl false) ?_); try simp (disch := omega) only [go_sem, seval, reduceCtorEq, ↓reduceIte, beq_dec, Int.toNat_natCast, IntKind.signed, IntKind.bits]) | refine And.intro (fun hc => (?_ : AW _ _ _ _)) (fun hc => (?_ : AW _ _ _ _)) | simp (disch := omega) only [go_sem, seval, reduceCtorEq, ↓reduceIte, beq_dec, Int.toNat_natCast, IntKind.signed, IntKind.bits] | (refine And.intro ?_ ?_; focus (first | (intros; omega) | (intros; simp_all; done))) | refine And.intro (?_ : CallAt _ _ _ _ _ _ _ _) ?_ | refine And.intro (?_ : CallAt _ _ _ _ _ _ _ _ ∧ _) ?_ | refine And.intro (?_ : AW _ _ _ _) ?_ | fail))
  refine AW_loopK [0, 1, 2] [6, 7, 8, 9, 10, 11, 12, 13, 14, 15, 16, 17, 18, 19, 20, 21, 22, 23, 24, 25, 26, 27, 28, 29, 30, 31, 32, 33, 34, 35, 36, 37, 38, 39, 40, 41, 42, 43] (fun i : Nat => i ≤ l.length ∧ ∀ j, j < i → Asc l lo hi j) (fun i => [(7, .I i)]) (fun _ => []) (fun i => l.length - i) 0 ⟨by omega, by omega⟩ ?_ ?_
  · simp (disch := omega) only [go_sem, seval, reduceCtorEq, ↓reduceIte, beq_dec, Int.toNat_natCast, IntKind.signed, IntKind.bits, Int.natCast_zero]
  · rintro i ⟨hi', hb⟩
    (repeat' (first | refine NextAt.mk (fun hc => ?_) (fun pre n v post hc hkey => ?_) | refine Sni.mk (fun hc => ?_) ?_ | refine Both.mk ?_ ?_ | refine AW_seq ?_ | refine AW_block ?_ | ((first | refine AW_reg ?_ | refine AW_cond ?_ | refine AW_skip ?_ | refine AW_exit ?_ | refine AW_ret ?_ | refine AW_regD (by kernel_rfl) ?_ | refine AW_regX (by kernel_rfl) ?_ | refine CallAtG.t (Eq.refl true) ?_ | refine CallAtG.f (Eq.refl false) ?_); try simp (disch := omega) only [go_sem, seval, reduceCtorEq, ↓reduceIte, beq_dec, Int.toNat_natCast, IntKind.signed, IntKind.bits, getD_map (fun x : Int => [CD.I x]), toNat_pred]) | refine And.intro (fun hc => (?_ : AW _ _ _ _)) (fun hc => (?_ : AW _ _ _ _)) | simp (disch := omega) only [go_sem, seval, reduceCtorEq, ↓reduceIte, beq_dec, Int.toNat_natCast, IntKind.signed, IntKind.bits, getD_map (fun x : Int => [CD.I x]), toNat_pred] | (refine And.intro ?_ ?_; focus (first | (intros; omega) | (intros; simp_all; done))) | refine And.intro (?_ : CallAt _ _ _ _ _ _ _ _) ?_ | refine And.intro (?_ : CallAt _ _ _ _ _ _ _ _ ∧ _) ?_ | refine And.intro (?_ : AW _ _ _ _) ?_ | fail))
    · rw [asc_no (i := i) (by omega)]
      unfold Asc; omega
    · refine .mk (i + 1) ⟨by omega, step_lt hb (by unfold Asc; omega)⟩ (by omega) ?_
      simp (disch := omega) only [go_sem, seval, reduceCtorEq, ↓reduceIte, beq_dec, Int.toNat_natCast, IntKind.signed, IntKind.bits, Int.natCast_add, Int.natCast_one]
    · symm; exact decide_eq_true fun j hj => hb j (by omega)
def validT (n : Int) (t : List (List Int)) : Bool := decide (0 ≤ n ∧ n ≤ 7 ∧ t.length ≤ 16 ∧ ∀ i, i < t.length → asc (nth t i) 0 (n - 1) = true)
theorem validT_no {n : Int} {t : List (List Int)} {i : Nat} (h : i < t.length) (hn : asc (nth t i) 0 (n - 1) = false) : validT n t = false := by
  unfold validT
  rw [decide_eq_false_iff_not]
  exact fun h' => by have := h'.2.2.2 i h; rw [hn] at this; cases this
theorem f69 (n : Int) (t : List (List Int)) : FnR Try.prog 15 [.I n, .c (Tab t)] [.c (.B (validT n t))] := by
  refine fn_walk code15 (by simp) ?_
  (repeat' (first | refine NextAt.mk (fun hc => ?_) (fun pre n v post hc hkey => ?_) | refine Sni.mk (fun hc => ?_) ?_ | refine Both.mk ?_ ?_ | refine AW_seq ?_ | refine AW_block ?_ | ((first | refine AW_reg ?_ | refine AW_cond ?_ | refine AW_skip ?_ | refine AW_exit ?_ | refine AW_ret ?_ | refine AW_regD (by kernel_rfl) ?_ | refine AW_regX (by kernel_rfl) ?_ | refine CallAtG.t (Eq.refl true) ?_ | refine CallAtG.f (Eq.refl false) ?_); try simp (disch := omega) only [go_sem, seval, reduceCtorEq, ↓reduceIte, beq_dec, Int.toNat_natCast, IntKind.signed, IntKind.bits]) | refine And.intro (fun hc => (?_ : AW _ _ _ _)) (fun hc => (?_ : AW _ _ _ _)) | simp (disch := omega) only [go_sem, seval, reduceCtorEq, ↓reduceIte, beq_dec, Int.toNat_natCast, IntKind.signed, IntKind.bits] | (refine And.intro ?_ ?_; focus (first | (intros; omega) | (intros; simp_all; done))) | refine And.intro (?_ : CallAt _ _ _ _ _ _ _ _) ?_ | refine And.intro (?_ : CallAt _ _ _ _ _ _ _ _ ∧ _) ?_ | refine And.intro (?_ : AW _ _ _ _) ?_ | fail))
  · unfold validT
    symm; rw [decide_eq_false_iff_not]; omega
  refine AW_loopK [0, 1] [4, 5, 17, 18, 19, 20, 21, 22, 23, 24, 25, 26, 27, 28, 29, 30] (fun i : Nat => i ≤ t.length ∧ ∀ j, j < i → asc (nth t j) 0 (n - 1) = true) (fun i => [(5, .I i)]) (fun _ => []) (fun i => t.length - i) 0 ⟨by omega, by omega⟩ ?_ ?_
  · simp (disch := omega) only [go_sem, seval, reduceCtorEq, ↓reduceIte, beq_dec, Int.toNat_natCast, IntKind.signed, IntKind.bits, Int.natCast_zero]
  · rintro i ⟨hi', hb⟩
    (repeat' (first | refine NextAt.mk (fun hc => ?_) (fun pre n v post hc hkey => ?_) | refine Sni.mk (fun hc => ?_) ?_ | refine Both.mk ?_ ?_ | refine AW_seq ?_ | refine AW_block ?_ | ((first | refine AW_reg ?_ | refine AW_cond ?_ | refine AW_skip ?_ | refine AW_exit ?_ | refine AW_ret ?_ | refine AW_regD (by kernel_rfl) ?_ | refine AW_regX (by kernel_rfl) ?_ | refine CallAtG.t (Eq.refl true) ?_ | refine CallAtG.f (Eq.refl false) ?_ | refine CallAt.mk _ (f70 ..) (by first | (intro h; cases h; done) | (intro _; repeat' (first | exact List.forall_mem_nil _ | trivial | refine List.forall_mem_cons.2 ⟨?_, ?_⟩)) | (intro _; simp [RV.flatP, CD.flatP, getD_map (fun r : List Int => [Row r])]; done)) ?_ | refine CallAtG.mk _ (fun _ => f70 ..) ?_ | refine CallDS.mk _ (by simp [RV.data]) (fun _ => f70 ..) (by first | (intro h; cases h; done) | (intro _; repeat' (first | exact List.forall_mem_nil _ | trivial | refine List.forall_mem_cons.2 ⟨?_, ?_⟩)) | (intro _; simp [RV.flatP, CD.flatP, getD_map (fun r : List Int => [Row r])]; done)) ?_); try simp (disch := omega) only [go_sem, seval, reduceCtorEq, ↓reduceIte, beq_dec, Int.toNat_natCast, IntKind.signed, IntKind.bits, getD_map (fun r : List Int => [Row r])]) | refine And.intro (fun hc => (?_ : AW _ _ _ _)) (fun hc => (?_ : AW _ _ _ _)) | simp (disch := omega) only [go_sem, seval, reduceCtorEq, ↓reduceIte, beq_dec, Int.toNat_natCast, IntKind.signed, IntKind.bits, getD_map (fun r : List Int => [Row r])] | (refine And.intro ?_ ?_; focus (first | (intros; omega) | (intros; simp_all; done))) | refine And.intro (?_ : CallAt _ _ _ _ _ _ _ _) ?_ | refine And.intro (?_ : CallAt _ _ _ _ _ _ _ _ ∧ _) ?_ | refine And.intro (?_ : AW _ _ _ _) ?_ | fail))
    · rw [validT_no (i := i) (by omega) (by assumption)]
    · refine .mk (i + 1) ⟨by omega, step_lt hb (by assumption)⟩ (by omega) ?_
      simp (disch := omega) only [go_sem, seval, reduceCtorEq, ↓reduceIte, beq_dec, Int.toNat_natCast, IntKind.signed, IntKind.bits, Int.natCast_add, Int.natCast_one]
    · symm; exact decide_eq_true ⟨by omega, by omega, by omega, fun j hj => hb j (by omega)⟩
theorem f34 (n : Int) (t : List (List Int)) : FnR Try.prog 6 [.I n, .c (Tab t)] [.c (.B (validT n t))] := by
  refine fn_walk code6 (by simp) ?_
  (repeat' (first | refine NextAt.mk (fun hc => ?_) (fun pre n v post hc hkey => ?_) | refine Sni.mk (fun hc => ?_) ?_ | refine Both.mk ?_ ?_ | refine AW_seq ?_ | refine AW_block ?_ | ((first | refine AW_reg ?_ | refine AW_cond ?_ | refine AW_skip ?_ | refine AW_exit ?_ | refine AW_ret ?_ | refine AW_regD (by kernel_rfl) ?_ | refine AW_regX (by kernel_rfl) ?_ | refine CallAtG.t (Eq.refl true) ?_ | refine CallAtG.f (Eq.refl false) ?_ | refine CallAt.mk _ (f69 ..) (by first | (intro h; cases h; done) | (intro _; repeat' (first | exact List.forall_mem_nil _ | trivial | refine List.forall_mem_cons.2 ⟨?_, ?_⟩)) | (intro _; simp [RV.flatP, CD.flatP]; done)) ?_ | refine CallAtG.mk _ (fun _ => f69 ..) ?_ | refine CallDS.mk _ (by simp [RV.data]) (fun _ => f69 ..) (by first | (intro h; cases h; done) | (intro _; repeat' (first | exact List.forall_mem_nil _ | trivial | refine List.forall_mem_cons.2 ⟨?_, ?_⟩)) | (intro _; simp [RV.flatP, CD.flatP]; done)) ?_); try simp (disch := omega) only [go_sem, seval, reduceCtorEq, ↓reduceIte, beq_dec, Int.toNat_natCast, IntKind.signed, IntKind.bits]) | refine And.intro (fun hc => (?_ : AW _ _ _ _)) (fun hc => (?_ : AW _ _ _ _)) | simp (disch := omega) only [go_sem, seval, reduceCtorEq, ↓reduceIte, beq_dec, Int.toNat_natCast, IntKind.signed, IntKind.bits] | (refine And.intro ?_ ?_; focus (first | (intros; omega) | (intros; simp_all; done))) | refine And.intro (?_ : CallAt _ _ _ _ _ _ _ _) ?_ | refine And.intro (?_ : CallAt _ _ _ _ _ _ _ _ ∧ _) ?_ | refine And.intro (?_ : AW _ _ _ _) ?_ | fail))
theorem tab_lens {t : List (List Int)} (h : ∀ x ∈ t.map (fun r => [Row r]), ∀ (k : Nat) (ys : List (List CD)), CD.sl k ys ∈ x → ys.length ≤ maxLen) (i : Nat) (hi : i < t.length) : (nth t i).length ≤ 9223372036854775807 := by
  have := h [Row (nth t i)] (List.mem_map.2 ⟨_, nth_mem t i hi, rfl⟩) 1 ((nth t i).map fun x => [CD.I x]) (by simp)
  simpa [maxLen] using this
theorem f38 (n : Int) (t : List (List Int)) : FnR Try.prog 16 [.I n, .c (Tab t)] [.c (.B (validT n t))] := by
  refine FnR_lens (pre := [.I n]) (post := []) (fnCode_callB code16) fun _ hls => ?_
  have hls := tab_lens hls
  refine fn_walk code16 (by simp) ?_
  (repeat' (first | refine NextAt.mk (fun hc => ?_) (fun pre n v post hc hkey => ?_) | refine Sni.mk (fun hc => ?_) ?_ | refine Both.mk ?_ ?_ | refine AW_seq ?_ | refine AW_block ?_ | ((first | refine AW_reg ?_ | refine AW_cond ?_ | refine AW_skip ?_ | refine AW_exit ?_ | refine AW_ret ?_ | refine AW_regD (by kernel_rfl) ?_ | refine AW_regX (by kernel_rfl) ?_ | refine CallAtG.t (Eq.refl true) ?_ | refine CallAtG.f (Eq.refl false) ?_); try simp (disch := omega) only [go_sem, seval, reduceCtorEq, ↓reduceIte, beq_dec, Int.toNat_natCast, IntKind.signed, IntKind.bits]) | refine And.intro (fun hc => (?_ : AW _ _ _ _)) (fun hc => (?_ : AW _ _ _ _)) | simp (disch := omega) only [go_sem, seval, reduceCtorEq, ↓reduceIte, beq_dec, Int.toNat_natCast, IntKind.signed, IntKind.bits] | (refine And.intro ?_ ?_; focus (first | (intros; omega) | (intros; simp_all; done))) | refine And.intro (?_ : CallAt _ _ _ _ _ _ _ _) ?_ | refine And.intro (?_ : CallAt _ _ _ _ _ _ _ _ ∧ _) ?_ | refine And.intro (?_ : AW _ _ _ _) ?_ | fail))
  · unfold validT
    symm; rw [decide_eq_false_iff_not]; omega
  refine AW_loopK [0, 20, 21] [4, 6, 7, 8, 22, 23, 24, 25, 26, 27, 28, 29, 30, 31, 32, 33, 34, 35, 36, 37, 38, 39, 40, 41, 42, 43, 44, 45, 46, 47, 48, 49, 50, 51, 52, 53, 54] (fun i : Nat => i ≤ t.length ∧ ∀ j, j < i → asc (nth t j) 0 (n - 1) = true) (fun i => [(22, .I i)]) (fun _ => []) (fun i => t.length - i) 0 ⟨by omega, by omega⟩ ?_ ?_
  · simp (disch := omega) only [go_sem, seval, reduceCtorEq, ↓reduceIte, beq_dec, Int.toNat_natCast, IntKind.signed, IntKind.bits, Int.natCast_zero]
  · rintro i ⟨hi', hb⟩
    (repeat' (first | refine NextAt.mk (fun hc => ?_) (fun pre n v post hc hkey => ?_) | refine Sni.mk (fun hc => ?_) ?_ | refine Both.mk ?_ ?_ | refine AW_seq ?_ | refine AW_block ?_ | ((first | refine AW_reg ?_ | refine AW_cond ?_ | refine AW_skip ?_ | refine AW_exit ?_ | refine AW_ret ?_ | refine AW_regD (by kernel_rfl) ?_ | refine AW_regX (by kernel_rfl) ?_ | refine CallAtG.t (Eq.refl true) ?_ | refine CallAtG.f (Eq.refl false) ?_); try simp (disch := omega) only [go_sem, seval, reduceCtorEq, ↓reduceIte, beq_dec, Int.toNat_natCast, IntKind.signed, IntKind.bits, getD_map (fun r : List Int => [Row r])]) | refine And.intro (fun hc => (?_ : AW _ _ _ _)) (fun hc => (?_ : AW _ _ _ _)) | simp (disch := omega) only [go_sem, seval, reduceCtorEq, ↓reduceIte, beq_dec, Int.toNat_natCast, IntKind.signed, IntKind.bits, getD_map (fun r : List Int => [Row r])] | (refine And.intro ?_ ?_; focus (first | (intros; omega) | (intros; simp_all; done))) | refine And.intro (?_ : CallAt _ _ _ _ _ _ _ _) ?_ | refine And.intro (?_ : CallAt _ _ _ _ _ _ _ _ ∧ _) ?_ | refine And.intro (?_ : AW _ _ _ _) ?_ | fail))
    · have hl : (nth t i).length ≤ 9223372036854775807 := hls i (by omega)
      refine AW_loopK [0, 6, 20, 21, 22, 26, 27] [4, 7, 8, 28, 29, 30, 31, 32, 33, 34, 35, 36, 37, 38, 39, 40, 41, 42, 43, 44, 45, 46, 47, 48, 49, 50, 51, 52, 53] (fun k : Nat => k ≤ (nth t i).length ∧ ∀ j, j < k → Asc (nth t i) 0 (n - 1) j) (fun k => [(28, .I k)]) (fun _ => []) (fun k => (nth t i).length - k) 0 ⟨by omega, by omega⟩ ?_ ?_
      · simp (disch := omega) only [go_sem, seval, reduceCtorEq, ↓reduceIte, beq_dec, Int.toNat_natCast, IntKind.signed, IntKind.bits, Int.natCast_zero]
      · rintro k ⟨hk, hcc⟩
        (repeat' (first | refine NextAt.mk (fun hc => ?_) (fun pre n v post hc hkey => ?_) | refine Sni.mk (fun hc => ?_) ?_ | refine Both.mk ?_ ?_ | refine AW_seq ?_ | refine AW_block ?_ | ((first | refine AW_reg ?_ | refine AW_cond ?_ | refine AW_skip ?_ | refine AW_exit ?_ | refine AW_ret ?_ | refine AW_regD (by kernel_rfl) ?_ | refine AW_regX (by kernel_rfl) ?_ | refine CallAtG.t (Eq.refl true) ?_ | refine CallAtG.f (Eq.refl false) ?_); try simp (disch := omega) only [go_sem, seval, reduceCtorEq, ↓reduceIte, beq_dec, Int.toNat_natCast, IntKind.signed, IntKind.bits, getD_map (fun x : Int => [CD.I x]), toNat_pred]) | refine And.intro (fun hc => (?_ : AW _ _ _ _)) (fun hc => (?_ : AW _ _ _ _)) | simp (disch := omega) only [go_sem, seval, reduceCtorEq, ↓reduceIte, beq_dec, Int.toNat_natCast, IntKind.signed, IntKind.bits, getD_map (fun x : Int => [CD.I x]), toNat_pred] | (refine And.intro ?_ ?_; focus (first | (intros; omega) | (intros; simp_all; done))) | refine And.intro (?_ : CallAt _ _ _ _ _ _ _ _) ?_ | refine And.intro (?_ : CallAt _ _ _ _ _ _ _ _ ∧ _) ?_ | refine And.intro (?_ : AW _ _ _ _) ?_ | fail))
        · rw [validT_no (i := i) (by omega) (asc_no (i := k) (by omega) (by unfold Asc; omega))]
        · refine .mk (k + 1) ⟨by omega, step_lt hcc (by unfold Asc; omega)⟩ (by omega) ?_
          simp (disch := omega) only [go_sem, seval, reduceCtorEq, ↓reduceIte, beq_dec, Int.toNat_natCast, IntKind.signed, IntKind.bits, Int.natCast_add, Int.natCast_one]
        · refine .mk (i + 1) ⟨by omega, step_lt hb (decide_eq_true fun j hj => hcc j (by omega))⟩ (by omega) ?_
          simp (disch := omega) only [go_sem, seval, reduceCtorEq, ↓reduceIte, beq_dec, Int.toNat_natCast, IntKind.signed, IntKind.bits, Int.natCast_add, Int.natCast_one]
    · symm; exact decide_eq_true ⟨by omega, by omega, by omega, fun j hj => hb j (by omega)⟩
theorem nth_ext {a b : List Int} (h : a.length = b.length) (h' : ∀ j, j < a.length → nth a j = nth b j) : a = b := by
  refine List.ext_getElem h fun i h1 h2 => ?_
  have := h' i h1
  rwa [nth_eq a i h1, nth_eq b i h2] at this
theorem f43 (a b : List Int) : FnR Try.prog 13 [.c (Row a), .c (Row b)] [.c (.B (decide (a = b)))] := by
  refine FnR_len (pre := []) (post := [.c (Row b)]) (fnCode_callB code13) fun hl => ?_
  simp only [List.length_map, maxLen] at hl
  refine fn_walk code13 (by simp) ?_
  (repeat' (first | refine NextAt.mk (fun hc => ?_) (fun pre n v post hc hkey => ?_) | refine Sni.mk (fun hc => ?_) ?_ | refine Both.mk ?_ ?_ | refine AW_seq ?_ | refine AW_block ?_ | ((first | refine AW_reg ?_ | refine AW_cond ?_ | refine AW_skip ?_ | refine AW_exit ?_ | refine AW_ret ?_ | refine AW_regD (by kernel_rfl) ?_ | refine AW_regX (by kernel_rfl) ?_ | refine CallAtG.t (Eq.refl true) ?_ | refine CallAtG.f (Eq.refl false) ?_); try simp (disch := omega) only [go_sem, seval, reduceCtorEq, ↓reduceIte, beq_dec, Int.toNat_natCast, IntKind.signed, IntKind.bits]) | refine And.intro (fun hc => (?_ : AW _ _ _ _)) (fun hc => (?_ : AW _ _ _ _)) | simp (disch := omega) only [go_sem, seval, reduceCtorEq, ↓reduceIte, beq_dec, Int.toNat_natCast, IntKind.signed, IntKind.bits] | (refine And.intro ?_ ?_; focus (first | (intros; omega) | (intros; simp_all; done))) | refine And.intro (?_ : CallAt _ _ _ _ _ _ _ _) ?_ | refine And.intro (?_ : CallAt _ _ _ _ _ _ _ _ ∧ _) ?_ | refine And.intro (?_ : AW _ _ _ _) ?_ | fail))
  · symm; rw [decide_eq_false_iff_not]; rintro rfl; omega
  refine AW_loopK [0, 1] [4, 5, 11, 12, 13, 14, 15, 16, 17, 18, 19, 20, 21, 22, 23, 24, 25] (fun i : Nat => i ≤ a.length ∧ ∀ j, j < i → nth a j = nth b j) (fun i => [(5, .I i)]) (fun _ => []) (fun i => a.length - i) 0 ⟨by omega, by omega⟩ ?_ ?_
  · simp (disch := omega) only [go_sem, seval, reduceCtorEq, ↓reduceIte, beq_dec, Int.toNat_natCast, IntKind.signed, IntKind.bits, Int.natCast_zero]
  · rintro i ⟨hi', hb⟩
    (repeat' (first | refine NextAt.mk (fun hc => ?_) (fun pre n v post hc hkey => ?_) | refine Sni.mk (fun hc => ?_) ?_ | refine Both.mk ?_ ?_ | refine AW_seq ?_ | refine AW_block ?_ | ((first | refine AW_reg ?_ | refine AW_cond ?_ | refine AW_skip ?_ | refine AW_exit ?_ | refine AW_ret ?_ | refine AW_regD (by kernel_rfl) ?_ | refine AW_regX (by kernel_rfl) ?_ | refine CallAtG.t (Eq.refl true) ?_ | refine CallAtG.f (Eq.refl false) ?_); try simp (disch := omega) only [go_sem, seval, reduceCtorEq, ↓reduceIte, beq_dec, Int.toNat_natCast, IntKind.signed, IntKind.bits, getD_map (fun x : Int => [CD.I x])]) | refine And.intro (fun hc => (?_ : AW _ _ _ _)) (fun hc => (?_ : AW _ _ _ _)) | simp (disch := omega) only [go_sem, seval, reduceCtorEq, ↓reduceIte, beq_dec, Int.toNat_natCast, IntKind.signed, IntKind.bits, getD_map (fun x : Int => [CD.I x])] | (refine And.intro ?_ ?_; focus (first | (intros; omega) | (intros; simp_all; done))) | refine And.intro (?_ : CallAt _ _ _ _ _ _ _ _) ?_ | refine And.intro (?_ : CallAt _ _ _ _ _ _ _ _ ∧ _) ?_ | refine And.intro (?_ : AW _ _ _ _) ?_ | fail))
    · symm; rw [decide_eq_false_iff_not]; rintro rfl; omega
    · refine .mk (i + 1) ⟨by omega, step_lt hb (by omega)⟩ (by omega) ?_
      simp (disch := omega) only [go_sem, seval, reduceCtorEq, ↓reduceIte, beq_dec, Int.toNat_natCast, IntKind.signed, IntKind.bits, Int.natCast_add, Int.natCast_one]
    · symm; exact decide_eq_true (nth_ext (by omega) fun j hj => hb j (by omega))
def few (n : Int) (t : List (List Int)) : Bool := decide (¬ (5 < n ∧ n ≤ 7) ∧ t.length ≤ 20 ∧ ∀ i, i < t.length → (nth t i).length ≤ 30)
theorem f25 (n : Int) (t : List (List Int)) : FnR Try.prog 5 [.I n, .c (Tab t)] [.c (.B (few n t))] := by
  refine fn_walk code5 (by simp) ?_
  (repeat' (first | refine NextAt.mk (fun hc => ?_) (fun pre n v post hc hkey => ?_) | refine Sni.mk (fun hc => ?_) ?_ | refine Both.mk ?_ ?_ | refine AW_seq ?_ | refine AW_block ?_ | ((first | refine AW_reg ?_ | refine AW_cond ?_ | refine AW_skip ?_ | refine AW_exit ?_ | refine AW_ret ?_ | refine AW_regD (by kernel_rfl) ?_ | refine AW_regX (by kernel_rfl) ?_ | refine CallAtG.t (Eq.refl true) ?_ | refine CallAtG.f (Eq.refl false) ?_); try simp (disch := omega) only [go_sem, seval, reduceCtorEq, ↓reduceIte, beq_dec, Int.toNat_natCast, IntKind.signed, IntKind.bits]) | refine And.intro (fun hc => (?_ : AW _ _ _ _)) (fun hc => (?_ : AW _ _ _ _)) | simp (disch := omega) only [go_sem, seval, reduceCtorEq, ↓reduceIte, beq_dec, Int.toNat_natCast, IntKind.signed, IntKind.bits] | (refine And.intro ?_ ?_; focus (first | (intros; omega) | (intros; simp_all; done))) | refine And.intro (?_ : CallAt _ _ _ _ _ _ _ _) ?_ | refine And.intro (?_ : CallAt _ _ _ _ _ _ _ _ ∧ _) ?_ | refine And.intro (?_ : AW _ _ _ _) ?_ | fail))
  · unfold few; symm; rw [decide_eq_false_iff_not]; omega
  refine AW_loopK [1] [4, 5, 17, 18, 19, 20, 21, 22, 23, 24, 25, 26, 27, 28] (fun i : Nat => i ≤ t.length ∧ ∀ j, j < i → (nth t j).length ≤ 30) (fun i => [(5, .I i)]) (fun _ => []) (fun i => t.length - i) 0 ⟨by omega, by omega⟩ ?_ ?_
  · simp (disch := omega) only [go_sem, seval, reduceCtorEq, ↓reduceIte, beq_dec, Int.toNat_natCast, IntKind.signed, IntKind.bits, Int.natCast_zero]
  · rintro i ⟨hi', hb⟩
    (repeat' (first | refine NextAt.mk (fun hc => ?_) (fun pre n v post hc hkey => ?_) | refine Sni.mk (fun hc => ?_) ?_ | refine Both.mk ?_ ?_ | refine AW_seq ?_ | refine AW_block ?_ | ((first | refine AW_reg ?_ | refine AW_cond ?_ | refine AW_skip ?_ | refine AW_exit ?_ | refine AW_ret ?_ | refine AW_regD (by kernel_rfl) ?_ | refine AW_regX (by kernel_rfl) ?_ | refine CallAtG.t (Eq.refl true) ?_ | refine CallAtG.f (Eq.refl false) ?_); try simp (disch := omega) only [go_sem, seval, reduceCtorEq, ↓reduceIte, beq_dec, Int.toNat_natCast, IntKind.signed, IntKind.bits, getD_map (fun r : List Int => [Row r])]) | refine And.intro (fun hc => (?_ : AW _ _ _ _)) (fun hc => (?_ : AW _ _ _ _)) | simp (disch := omega) only [go_sem, seval, reduceCtorEq, ↓reduceIte, beq_dec, Int.toNat_natCast, IntKind.signed, IntKind.bits, getD_map (fun r : List Int => [Row r])] | (refine And.intro ?_ ?_; focus (first | (intros; omega) | (intros; simp_all; done))) | refine And.intro (?_ : CallAt _ _ _ _ _ _ _ _) ?_ | refine And.intro (?_ : CallAt _ _ _ _ _ _ _ _ ∧ _) ?_ | refine And.intro (?_ : AW _ _ _ _) ?_ | fail))
    · unfold few; symm; rw [decide_eq_false_iff_not]; intro h; have := h.2.2 i (by omega); omega
    · refine .mk (i + 1) ⟨by omega, step_lt hb (by omega)⟩ (by omega) ?_
      simp (disch := omega) only [go_sem, seval, reduceCtorEq, ↓reduceIte, beq_dec, Int.toNat_natCast, IntKind.signed, IntKind.bits, Int.natCast_add, Int.natCast_one]
    · symm; exact decide_eq_true ⟨by omega, by omega, fun j hj => hb j (by omega)⟩
def upto (n : Nat) : List Int := (List.range n).map fun (i : Nat) => (i : Int)
theorem upto_succ (n : Nat) : upto (n + 1) = upto n ++ [(n : Int)] := by simp [upto, List.range_succ]
theorem upto_len (n : Nat) : (upto n).length = n := by simp [upto]
end Go.Proofs.Ytcimlelkeppoiaa

open Go Go.AL Go.RowKit
namespace Go.Proofs.Ytcimlelkeppoiaa
set_option maxRecDepth 20000
theorem f87 (n : Int) (hn : n ≤ 1000) : FnR Try.prog 17 [.I n] [ORow (upto n.toNat)] := by
  refine fn_walk code17 (by simp) ?_
  (repeat' (first | refine NextAt.mk (fun hc => ?_) (fun pre n v post hc hkey => ?_) | refine Sni.mk (fun hc => ?_) ?_ | refine Both.mk ?_ ?_ | refine AW_seq ?_ | refine AW_block ?_ | ((first | refine AW_reg ?_ | refine AW_cond ?_ | refine AW_skip ?_ | refine AW_exit ?_ | refine AW_ret ?_ | refine AW_regD (by kernel_rfl) ?_ | refine AW_regX (by kernel_rfl) ?_ | refine CallAtG.t (Eq.refl true) ?_ | refine CallAtG.f (Eq.refl false) ?_); try simp (disch := omega) only [go_sem, seval, reduceCtorEq, ↓reduceIte, beq_dec, Int.toNat_natCast, IntKind.signed, IntKind.bits]) | refine And.intro (fun hc => (?_ : AW _ _ _ _)) (fun hc => (?_ : AW _ _ _ _)) | simp (disch := omega) only [go_sem, seval, reduceCtorEq, ↓reduceIte, beq_dec, Int.toNat_natCast, IntKind.signed, IntKind.bits] | (refine And.intro ?_ ?_; focus (first | (intros; omega) | (intros; simp_all; done))) | refine And.intro (?_ : CallAt _ _ _ _ _ _ _ _) ?_ | refine And.intro (?_ : CallAt _ _ _ _ _ _ _ _ ∧ _) ?_ | refine And.intro (?_ : AW _ _ _ _) ?_ | fail))
  refine AW_nil 3 900 3 1 (by rfl) ?_
  refine AW_loopK [5] [3, 4, 6, 7, 8, 9, 10, 11, 12, 13] (fun i : Nat => i ≤ n.toNat) (fun i => [(6, .I i), (3, .own 900)]) (fun i => [(900, .arr 3 1 ((upto i).map fun x => [CD.I x]))]) (fun i => n.toNat - i) 0 (by omega) ?_ ?_
  · simp (disch := omega) only [go_sem, seval, reduceCtorEq, ↓reduceIte, beq_dec, Int.toNat_natCast, IntKind.signed, IntKind.bits, Int.natCast_zero]
    simp [upto]
  · rintro i hi'
    (repeat' (first | refine NextAt.mk (fun hc => ?_) (fun pre n v post hc hkey => ?_) | refine Sni.mk (fun hc => ?_) ?_ | refine Both.mk ?_ ?_ | refine AW_seq ?_ | refine AW_block ?_ | ((first | refine AW_reg ?_ | refine AW_cond ?_ | refine AW_skip ?_ | refine AW_exit ?_ | refine AW_ret ?_ | refine AW_regD (by kernel_rfl) ?_ | refine AW_regX (by kernel_rfl) ?_ | refine CallAtG.t (Eq.refl true) ?_ | refine CallAtG.f (Eq.refl false) ?_); try simp (disch := omega) only [go_sem, seval, reduceCtorEq, ↓reduceIte, beq_dec, Int.toNat_natCast, IntKind.signed, IntKind.bits, maxLen, upto_len]) | refine And.intro (fun hc => (?_ : AW _ _ _ _)) (fun hc => (?_ : AW _ _ _ _)) | simp (disch := omega) only [go_sem, seval, reduceCtorEq, ↓reduceIte, beq_dec, Int.toNat_natCast, IntKind.signed, IntKind.bits, maxLen, upto_len] | (refine And.intro ?_ ?_; focus (first | (intros; omega) | (intros; simp_all; done))) | refine And.intro (?_ : CallAt _ _ _ _ _ _ _ _) ?_ | refine And.intro (?_ : CallAt _ _ _ _ _ _ _ _ ∧ _) ?_ | refine And.intro (?_ : AW _ _ _ _) ?_ | fail))
    · refine .mk (i + 1) (by omega) (by omega) ?_
      simp (disch := omega) only [go_sem, seval, reduceCtorEq, ↓reduceIte, beq_dec, Int.toNat_natCast, IntKind.signed, IntKind.bits, Int.natCast_add, Int.natCast_one, upto_succ, List.map_append]
    · rw [show n.toNat = i by omega]
def five : List (List Int) := [[0, 1], [1, 2], [0, 1, 2], [0, 2], [2, 3]]
theorem f80 : FnR Try.prog 12 [] [OTab five] := by
  refine fn_walk code12 (by simp) ?_
  (repeat' (first | refine NextAt.mk (fun hc => ?_) (fun pre n v post hc hkey => ?_) | refine Sni.mk (fun hc => ?_) ?_ | refine Both.mk ?_ ?_ | refine AW_seq ?_ | refine AW_block ?_ | ((first | refine AW_reg ?_ | refine AW_cond ?_ | refine AW_skip ?_ | refine AW_exit ?_ | refine AW_ret ?_ | refine AW_regD (by kernel_rfl) ?_ | refine AW_regX (by kernel_rfl) ?_ | refine CallAtG.t (Eq.refl true) ?_ | refine CallAtG.f (Eq.refl false) ?_); try simp (disch := omega) only [go_sem, seval, reduceCtorEq, ↓reduceIte, beq_dec, Int.toNat_natCast, IntKind.signed, IntKind.bits]) | refine And.intro (fun hc => (?_ : AW _ _ _ _)) (fun hc => (?_ : AW _ _ _ _)) | simp (disch := omega) only [go_sem, seval, reduceCtorEq, ↓reduceIte, beq_dec, Int.toNat_natCast, IntKind.signed, IntKind.bits] | (refine And.intro ?_ ?_; focus (first | (intros; omega) | (intros; simp_all; done))) | refine And.intro (?_ : CallAt _ _ _ _ _ _ _ _) ?_ | refine And.intro (?_ : CallAt _ _ _ _ _ _ _ _ ∧ _) ?_ | refine And.intro (?_ : AW _ _ _ _) ?_ | fail))
  rfl
theorem f81 (l : List Int) (n : Int) : FnR Try.prog 41 [.c (Row l), .I n] [.c (.B (asc l 0 (n - 1)))] := by
  refine FnR_len (pre := []) (post := [.I n]) (fnCode_callB code41) fun hl => ?_
  simp only [List.length_map, maxLen] at hl
  refine fn_walk code41 (by simp) ?_
  (repeat' (first | refine NextAt.mk (fun hc => ?_) (fun pre n v post hc hkey => ?_) | refine Sni.mk (fun hc => ?_) ?_ | refine Both.mk ?_ ?_ | refine AW_seq ?_ | refine AW_block ?_ | ((first | refine AW_reg ?_ | refine AW_cond ?_ | refine AW_skip ?_ | refine AW_exit ?_ | refine AW_ret ?_ | refine AW_regD (by kernel_rfl) ?_ | refine AW_regX (by kernel_rfl) ?_ | refine CallAtG.t (Eq.refl true) ?_ | refine CallAtG.f (Eq.refl false) ?_); try simp (disch := omega) only [go_sem, seval, reduceCtorEq, ↓reduceIte, beq_dec, Int.toNat_natCast, IntKind.signed, IntKind.bits]) | refine And.intro (fun hc => (?_ : AW _ _ _ _)) (fun hc => (?_ : AW _ _ _ _)) | simp (disch := omega) only [go_sem, seval, reduceCtorEq, ↓reduceIte, beq_dec, Int.toNat_natCast, IntKind.signed, IntKind.bits] | (refine And.intro ?_ ?_; focus (first | (intros; omega) | (intros; simp_all; done))) | refine And.intro (?_ : CallAt _ _ _ _ _ _ _ _) ?_ | refine And.intro (?_ : CallAt _ _ _ _ _ _ _ _ ∧ _) ?_ | refine And.intro (?_ : AW _ _ _ _) ?_ | fail))
  refine AW_loopK [0, 1, 7, 8] [4, 5, 6, 9, 10, 11, 12, 13, 14, 15, 16, 17, 18, 19, 20, 21, 22, 23, 24, 25, 26, 27, 28, 29, 30, 31, 32, 33, 34] (fun i : Nat => i ≤ l.length ∧ ∀ j, j < i → Asc l 0 (n - 1) j) (fun i => [(9, .I i)]) (fun _ => []) (fun i => l.length - i) 0 ⟨by omega, by omega⟩ ?_ ?_
  · simp (disch := omega) only [go_sem, seval, reduceCtorEq, ↓reduceIte, beq_dec, Int.toNat_natCast, IntKind.signed, IntKind.bits, Int.natCast_zero]
  · rintro i ⟨hi', hb⟩
    (repeat' (first | refine NextAt.mk (fun hc => ?_) (fun pre n v post hc hkey => ?_) | refine Sni.mk (fun hc => ?_) ?_ | refine Both.mk ?_ ?_ | refine AW_seq ?_ | refine AW_block ?_ | ((first | refine AW_reg ?_ | refine AW_cond ?_ | refine AW_skip ?_ | refine AW_exit ?_ | refine AW_ret ?_ | refine AW_regD (by kernel_rfl) ?_ | refine AW_regX (by kernel_rfl) ?_ | refine CallAtG.t (Eq.refl true) ?_ | refine CallAtG.f (Eq.refl false) ?_); try simp (disch := omega) only [go_sem, seval, reduceCtorEq, ↓reduceIte, beq_dec, Int.toNat_natCast, IntKind.signed, IntKind.bits, getD_map (fun x : Int => [CD.I x]), toNat_pred]) | refine And.intro (fun hc => (?_ : AW _ _ _ _)) (fun hc => (?_ : AW _ _ _ _)) | simp (disch := omega) only [go_sem, seval, reduceCtorEq, ↓reduceIte, beq_dec, Int.toNat_natCast, IntKind.signed, IntKind.bits, getD_map (fun x : Int => [CD.I x]), toNat_pred] | (refine And.intro ?_ ?_; focus (first | (intros; omega) | (intros; simp_all; done))) | refine And.intro (?_ : CallAt _ _ _ _ _ _ _ _) ?_ | refine And.intro (?_ : CallAt _ _ _ _ _ _ _ _ ∧ _) ?_ | refine And.intro (?_ : AW _ _ _ _) ?_ | fail))
    · rw [asc_no (i := i) (by omega)]
      unfold Asc; omega
    · refine .mk (i + 1) ⟨by omega, step_lt hb (by unfold Asc; omega)⟩ (by omega) ?_
      simp (disch := omega) only [go_sem, seval, reduceCtorEq, ↓reduceIte, beq_dec, Int.toNat_natCast, IntKind.signed, IntKind.bits, Int.natCast_add, Int.natCast_one]
    · symm; exact decide_eq_true fun j hj => hb j (by omega)
def part (n : Int) (t : List (List Int)) (rows cols : List Int) : Bool := asc rows 0 ((t.length : Int) - 1) && asc cols 0 (n - 1)
theorem asc_ge {l : List Int} {lo hi : Int} (h : asc l lo hi = true) : ∀ i, i < l.length → lo + i ≤ nth l i
  | 0, hi' => by
    have := of_decide_eq_true h 0 hi'
    unfold Asc at this; omega
  | i + 1, hi' => by
    have h1 := asc_ge h i (by omega)
    have := of_decide_eq_true h (i + 1) hi'
    unfold Asc at this
    simp only [Nat.add_sub_cancel] at this
    omega
theorem asc_len {l : List Int} {lo hi : Int} (h : asc l lo hi = true) : l.length ≤ (hi - lo + 1).toNat := by
  rcases Nat.eq_zero_or_pos l.length with h0 | h0
  · omega
  · have h1 := asc_ge h (l.length - 1) (by omega)
    have := of_decide_eq_true h (l.length - 1) (by omega)
    unfold Asc at this
    omega
theorem asc_rng {l : List Int} {lo hi : Int} (h : asc l lo hi = true) (i : Nat) (hi' : i < l.length) : lo ≤ nth l i ∧ nth l i ≤ hi := by
  have := of_decide_eq_true h i hi'
  unfold Asc at this
  exact ⟨this.1, this.2.1⟩
def cutN (r cols : List Int) (k : Nat) : List Int := ((List.range k).filter fun k => decide (nth cols k ∈ r)).map fun (k : Nat) => (k : Int)
def cutM (t : List (List Int)) (rows cols : List Int) (i : Nat) : List (List Int) := (rows.take i).map fun j => cutN (nth t j.toNat) cols cols.length
def cutT (t : List (List Int)) (rows cols : List Int) : List (List Int) := rows.map fun j => cutN (nth t j.toNat) cols cols.length
theorem cutM_succ (t : List (List Int)) (rows cols : List Int) (i : Nat) (h : i < rows.length) : cutM t rows cols (i + 1) = cutM t rows cols i ++ [cutN (nth t (nth rows i).toNat) cols cols.length] := by
  unfold cutM
  rw [List.take_succ_eq_append_getElem h, List.map_append, nth_eq rows i h]; rfl
theorem cutM_len (t : List (List Int)) (rows cols : List Int) (i : Nat) : (cutM t rows cols i).length ≤ i := by
  unfold cutM; simp; omega
def cutErr (n : Int) (t : List (List Int)) (rows cols : List Int) : Int := if validT n t = false then 1 else if part n t rows cols = false then 2 else 0
theorem validT_of {n : Int} {t : List (List Int)} (h : validT n t = true) : 0 ≤ n ∧ n ≤ 7 ∧ t.length ≤ 16 ∧ ∀ i, i < t.length → asc (nth t i) 0 (n - 1) = true := of_decide_eq_true h
def cutR (n : Int) (t : List (List Int)) (rows cols : List Int) : List (List Int) := if cutErr n t rows cols = 0 then cutT t rows cols else []
end Go.Proofs.Ytcimlelkeppoiaa

namespace Go.Proofs
open Go.Shelf
def Try.laysNm223_ren : Go.Shelf.Ren := ⟨fun | 23 => 29 | n => n, fun | 22 => 25 | 3 => 3 | 4 => 4 | 0 => 0 | n => n, fun | n => n⟩
theorem Try.laysNm223 : Go.Proofs.Lays2.n23 Try.prog Try.laysNm223_ren := {
  mixed := by kernel_rfl
  f23 := Try.func29.trans (congrArg some (by kernel_rfl))
  t0 := Try.underlying0
  a0 := Try.isAgg0
  z0 := Try.sizeOf0
  v0 := Try.zeroValue0
  t3 := Try.underlying3
  a3 := Try.isAgg3
  z3 := Try.sizeOf3
  v3 := Try.zeroValue3
  t4 := Try.underlying4
  a4 := Try.isAgg4
  z4 := Try.sizeOf4
  v4 := Try.zeroValue4
  t22 := Try.underlying25
  a22 := Try.isAgg25
  z22 := Try.sizeOf25
  v22 := Try.zeroValue25
  i3 := by kernel_rfl }
open Go.RowKit Go.Lib Go.Sort in
theorem Try.slices_Delete_int (blk off cap i j : Nat) (zs : List Int) (w : World) (hH : Holds (Value.int .i64) w blk off zs.toArray) (hcap : zs.length ≤ cap) (hm : cap ≤ 9223372036854775807) (hij : i ≤ j) (hj : j ≤ zs.length) :
    Calls Try.prog 29 #[.slice (some ⟨blk, off, none⟩) zs.length cap, .int .i64 i, .int .i64 j] w fun e w' => e = .returned (.slice (some ⟨blk, off, none⟩) (zs.length - (j - i)) cap) ∧ ∃ q, w' = putRow (Value.int .i64) (Sort.ahead w q) blk off (zs.take i ++ zs.drop j ++ List.replicate (j - i) 0).toArray := Any.slices_Delete_int Try.laysNm223 blk off cap i j zs w hH hcap hm hij hj
end Go.Proofs

open Go Go.AL Go.RowKit
namespace Go.Proofs.Ytcimlelkeppoiaa
set_option maxRecDepth 20000
theorem vals2 {w : World} {vs : List Value} {a b : Int} (hl : vs.length = 2) (h : ∀ (j : Nat) (d : CD) (v : Value), [AV.I a, AV.I b][j]? = some (.c d) → vs[j]? = some v → d.flatP → Rd w (fun _ => True) d v) : vs = [.int .i64 a, .int .i64 b] := by
  match vs, hl with
  | [v, u], _ =>
    have h1 := h 0 _ v rfl rfl trivial
    have h2 := h 1 _ u rfl rfl trivial
    cases h1; cases h2; rfl
def wo (l : List Int) (i : Nat) : List Int := l.take i ++ l.drop (i + 1)
theorem f120 (id : Nat) (l : List Int) (i : Nat) (hi : i < l.length) : FnW Try.prog 29 [.own id, .I i, .I ((i : Int) + 1)] [(id, .arr 3 1 (l.map fun x => [CD.I x]))] [ORow (wo l i)] [] [] := by
  refine FnW_cut id (by kernel_rfl) (fun h x hx => ?_) (fun g o cap w vs hH hcap hm hg hl hv => ?_) (fun h => by subst h; simp at hi)
  · unfold wo at hx
    rcases List.mem_append.1 hx with hx | hx
    · exact h x (List.mem_of_mem_take hx)
    · exact h x (List.mem_of_mem_drop hx)
  · obtain rfl := vals2 hl hv
    have := Try.slices_Delete_int g o cap i (i + 1) l w hH hcap (by unfold maxLen at hm; omega) (by omega) (by omega)
    simp only [Int.natCast_add, Int.natCast_one] at this
    have hlen : (wo l i).length = l.length - (i + 1 - i) := by unfold wo; simp; omega
    refine this.mono ?_
    rintro E w' ⟨rfl, q, rfl⟩
    refine ⟨by rw [hlen], l.take i ++ l.drop (i + 1) ++ List.replicate (i + 1 - i) 0, q, #[], ?_, ⟨List.replicate (i + 1 - i) 0, rfl⟩, by simp⟩
    simp; omega
theorem f85 (l : List Int) (i : Nat) (hi : i < l.length) (hl : l.length ≤ 1000000) : FnR Try.prog 19 [.c (Row l), .I i] [ORow (wo l i)] := by
  have g96 := f96 l hl
  have g120 := f120 6 l i hi
  refine fn_walk code19 (by simp) ?_
  (repeat' (first | refine NextAt.mk (fun hc => ?_) (fun pre n v post hc hkey => ?_) | refine Sni.mk (fun hc => ?_) ?_ | refine Both.mk ?_ ?_ | refine AW_seq ?_ | refine AW_block ?_ | ((first | refine AW_reg ?_ | refine AW_cond ?_ | refine AW_skip ?_ | refine AW_exit ?_ | refine AW_ret ?_ | refine AW_regD (by kernel_rfl) ?_ | refine AW_regX (by kernel_rfl) ?_ | refine CallAt.mkW (g120 ..) (by rfl) (by simp (disch := omega) only [go_sem, seval, reduceCtorEq, ↓reduceIte, beq_dec, Int.toNat_natCast, IntKind.signed, IntKind.bits, maxLen]) (by rfl) (by rfl) (by first | (intro h; cases h; done) | (intro _; simp [RV.flatP, CD.flatP, flatOb, AO.flatP, maxLen]; done)) ?_ | refine CallAtG.t (Eq.refl true) ?_ | refine CallAtG.f (Eq.refl false) ?_ | refine CallAt.mk _ (g96 ..) (by first | (intro h; cases h; done) | (intro _; repeat' (first | exact List.forall_mem_nil _ | trivial | refine List.forall_mem_cons.2 ⟨?_, ?_⟩)) | (intro _; simp [RV.flatP, CD.flatP, maxLen]; done)) ?_ | refine CallAtG.mk _ (fun _ => g96 ..) ?_ | refine CallDS.mk _ (by simp [RV.data]) (fun _ => g96 ..) (by first | (intro h; cases h; done) | (intro _; repeat' (first | exact List.forall_mem_nil _ | trivial | refine List.forall_mem_cons.2 ⟨?_, ?_⟩)) | (intro _; simp [RV.flatP, CD.flatP, maxLen]; done)) ?_); try simp (disch := omega) only [go_sem, seval, reduceCtorEq, ↓reduceIte, beq_dec, Int.toNat_natCast, IntKind.signed, IntKind.bits, maxLen]) | refine And.intro (fun hc => (?_ : AW _ _ _ _)) (fun hc => (?_ : AW _ _ _ _)) | simp (disch := omega) only [go_sem, seval, reduceCtorEq, ↓reduceIte, beq_dec, Int.toNat_natCast, IntKind.signed, IntKind.bits, maxLen] | (refine And.intro ?_ ?_; focus (first | (intros; omega) | (intros; simp_all; done))) | refine And.intro (?_ : CallAt _ _ _ _ _ _ _ _) ?_ | refine And.intro (?_ : CallAt _ _ _ _ _ _ _ _ ∧ _) ?_ | refine And.intro (?_ : AW _ _ _ _) ?_ | fail))
end Go.Proofs.Ytcimlelkeppoiaa

open Go Go.AL Go.RowKit
namespace Go.Proofs.Ytcimlelkeppoiaa
set_option maxRecDepth 20000
def fitsB (t : List (List Int)) (left : List Int) (c : Int) (k : Nat) : Bool := decide (∀ i, i < k → c ∉ nth t i → ¬ (0 < nth left i ∧ nth left i < (nth t i).length))
def nextL (t : List (List Int)) (left : List Int) (c : Int) (k : Nat) : List Int := (List.range left.length).map fun j => if j < k ∧ c ∈ nth t j then nth left j - 1 else nth left j
theorem nextL_len (t : List (List Int)) (left : List Int) (c : Int) (k : Nat) : (nextL t left c k).length = left.length := by simp [nextL]
theorem nextL_nth (t : List (List Int)) (left : List Int) (c : Int) (k j : Nat) (h : j < left.length) : nth (nextL t left c k) j = if j < k ∧ c ∈ nth t j then nth left j - 1 else nth left j := by
  rw [nth_eq _ j (by rw [nextL_len]; exact h)]
  simp [nextL]
theorem nextL_zero (t : List (List Int)) (left : List Int) (c : Int) : nextL t left c 0 = left := by
  refine nth_ext (nextL_len ..) fun j hj => ?_
  rw [nextL_nth t left c 0 j (by rw [nextL_len] at hj; exact hj)]
  simp
theorem nextL_in (t : List (List Int)) (left : List Int) (c : Int) (k : Nat) (hk : k < left.length) (h : c ∈ nth t k) : nextL t left c (k + 1) = (nextL t left c k).set k (nth left k - 1) := by
  refine List.ext_getElem (by simp [nextL]) fun j h1 h2 => ?_
  have hj : j < left.length := by simpa [nextL] using h1
  rw [List.getElem_set]
  simp only [nextL, List.getElem_map, List.getElem_range]
  by_cases e : k = j
  · subst e; simp [h]
  · rw [if_neg e]
    have : j < k + 1 ↔ j < k := by omega
    simp [this]
theorem nextL_out (t : List (List Int)) (left : List Int) (c : Int) (k : Nat) (h : c ∉ nth t k) : nextL t left c (k + 1) = nextL t left c k := by
  unfold nextL
  refine List.map_congr_left fun j _ => ?_
  by_cases e : j = k
  · subst e; simp [h]
  · have : j < k + 1 ↔ j < k := by omega
    simp [this]
theorem fitsB_succ (t : List (List Int)) (left : List Int) (c : Int) (k : Nat) : fitsB t left c (k + 1) = (fitsB t left c k && (decide (c ∈ nth t k) || !(decide (0 < nth left k) && decide (nth left k < (nth t k).length)))) := by
  unfold fitsB
  rw [Bool.eq_iff_iff]
  simp only [decide_eq_true_eq, Bool.and_eq_true, Bool.or_eq_true, Bool.not_eq_true', Bool.and_eq_false_iff, decide_eq_false_iff_not]
  constructor
  · intro h
    refine ⟨fun i hi => h i (by omega), ?_⟩
    have := h k (by omega)
    by_cases hc : c ∈ nth t k
    · exact .inl hc
    · exact .inr (by have := this hc; omega)
  · rintro ⟨h1, h2⟩ i hi hc
    rcases Nat.lt_succ_iff_lt_or_eq.1 hi with h' | rfl
    · exact h1 i h' hc
    · rcases h2 with h2 | h2
      · exact absurd h2 hc
      · omega
def walks (n : Nat) (t : List (List Int)) : Nat → List Int → List Int → List (List Int)
  | 0, b, _ => [b]
  | k + 1, b, left => (List.range n).flatMap fun (c : Nat) => if (c : Int) ∈ b ∨ fitsB t left c t.length = false then [] else walks n t k (b ++ [(c : Int)]) (nextL t left c t.length)
def br (n : Nat) (t : List (List Int)) (k : Nat) (b left : List Int) (c : Nat) : List (List Int) := if (c : Int) ∈ b ∨ fitsB t left c t.length = false then [] else walks n t k (b ++ [(c : Int)]) (nextL t left c t.length)
theorem walks_succ (n : Nat) (t : List (List Int)) (k : Nat) (b left : List Int) : walks n t (k + 1) b left = (List.range n).flatMap (br n t k b left) := rfl
def fo : List (List Int) → CD
  | [] => .nil
  | o :: _ => Row o
theorem flatMap_first {f : Nat → List (List Int)} {n c : Nat} (hc : c < n) (h : ∀ j, j < c → f j = []) (hne : f c ≠ []) : fo ((List.range n).flatMap f) = fo (f c) ∧ ((List.range n).flatMap f).isEmpty = false := by
  have e : List.range n = List.range c ++ c :: (List.range' (c + 1) (n - c - 1)) := by
    have h1 : c :: List.range' (c + 1) (n - c - 1) = List.range' c (n - c) := by
      rw [show n - c = (n - c - 1) + 1 by omega, List.range'_succ]; rfl
    rw [h1, List.range_eq_range', List.range_eq_range']
    have := List.range'_append_1 (s := 0) (m := c) (n := n - c)
    simp only [Nat.zero_add] at this
    rw [this]; congr 1; omega
  have h0 : (List.range c).flatMap f = [] := by
    rw [List.flatMap_eq_nil_iff]
    intro j hj
    exact h j (List.mem_range.1 hj)
  rw [e, List.flatMap_append, h0, List.nil_append, List.flatMap_cons]
  cases hf : f c with
  | nil => exact absurd hf hne
  | cons o r => exact ⟨rfl, rfl⟩
theorem f99 (d a : CD) (b : Bool) : FnW Try.prog 31 [.c d, .ptr 1000006 0, .ptr 1000007 0] [(1000006, .box 25 [.c a]), (1000007, .box 4 [.B b])] [.c (.B false)] [(1000006, .box 25 [.c d]), (1000007, .box 4 [.B true])] [1000006, 1000007] := by
  refine fn_walkW code31 (by simp) (by rfl) ?_
  (repeat' (first | refine NextAt.mk (fun hc => ?_) (fun pre n v post hc hkey => ?_) | refine Sni.mk (fun hc => ?_) ?_ | refine Both.mk ?_ ?_ | refine AW_seq ?_ | refine AW_block ?_ | ((first | refine AW_reg ?_ | refine AW_cond ?_ | refine AW_skip ?_ | refine AW_exit ?_ | refine AW_ret ?_ | refine AW_regD (by kernel_rfl) ?_ | refine AW_regX (by kernel_rfl) ?_ | refine CallAtG.t (Eq.refl true) ?_ | refine CallAtG.f (Eq.refl false) ?_); try simp (disch := omega) only [go_sem, seval, reduceCtorEq, ↓reduceIte, beq_dec, Int.toNat_natCast, IntKind.signed, IntKind.bits]) | refine And.intro (fun hc => (?_ : AW _ _ _ _)) (fun hc => (?_ : AW _ _ _ _)) | simp (disch := omega) only [go_sem, seval, reduceCtorEq, ↓reduceIte, beq_dec, Int.toNat_natCast, IntKind.signed, IntKind.bits] | (refine And.intro ?_ ?_; focus (first | (intros; omega) | (intros; simp_all; done))) | refine And.intro (?_ : CallAt _ _ _ _ _ _ _ _) ?_ | refine And.intro (?_ : CallAt _ _ _ _ _ _ _ _ ∧ _) ?_ | refine And.intro (?_ : AW _ _ _ _) ?_ | fail))
abbrev vF : AV := .fn 31 [.ptr 1000006 0, .ptr 1000007 0]
structure Wok (n k : Nat) (t : List (List Int)) (b left : List Int) : Prop where
  hb : b.length + k = n
  hn : n ≤ 7
  ht : t.length ≤ 16
  hr : ∀ i, i < t.length → (nth t i).length ≤ 1000
  hl : left.length = t.length
  hv : ∀ i, i < t.length → (k : Int) - 1000 ≤ nth left i ∧ nth left i ≤ 1000
set_option maxHeartbeats 4000000 in
theorem f130F (n : Nat) (t : List (List Int)) : ∀ (k : Nat) (b left : List Int), Wok n k t b left → FnW Try.prog 43 [.I n, .c (Tab t), .c (Row b), .c (Row left), vF] [(1000006, .box 25 [.c .nil]), (1000007, .box 4 [.B false])]
    [.c (.B (walks n t k b left).isEmpty)] [(1000006, .box 25 [.c (fo (walks n t k b left))]), (1000007, .box 4 [.B (!(walks n t k b left).isEmpty)])] [1000006, 1000007]
  | 0, b, left, ⟨hb, hn, ht, hr, hl, hv⟩ => by
    have g99 := f99 (Row b) .nil false
    refine fn_walkW code43 (by simp) (by rfl) ?_
    (repeat' (first | refine NextAt.mk (fun hc => ?_) (fun pre n v post hc hkey => ?_) | refine Sni.mk (fun hc => ?_) ?_ | refine Both.mk ?_ ?_ | refine AW_seq ?_ | refine AW_block ?_ | ((first | refine AW_reg ?_ | refine AW_cond ?_ | refine AW_skip ?_ | refine AW_exit ?_ | refine AW_ret ?_ | refine AW_regD (by kernel_rfl) ?_ | refine AW_regX (by kernel_rfl) ?_ | refine CallAt.mkW (g99 ..) (by rfl) (by simp (disch := omega) only [go_sem, seval, reduceCtorEq, ↓reduceIte, beq_dec, Int.toNat_natCast, IntKind.signed, IntKind.bits]) (by rfl) (by rfl) (by first | (intro h; cases h; done) | (intro _; simp [RV.flatP, CD.flatP, flatOb, AO.flatP]; done)) ?_ | refine CallAtG.t (Eq.refl true) ?_ | refine CallAtG.f (Eq.refl false) ?_); try simp (disch := omega) only [go_sem, seval, reduceCtorEq, ↓reduceIte, beq_dec, Int.toNat_natCast, IntKind.signed, IntKind.bits]) | refine And.intro (fun hc => (?_ : AW _ _ _ _)) (fun hc => (?_ : AW _ _ _ _)) | simp (disch := omega) only [go_sem, seval, reduceCtorEq, ↓reduceIte, beq_dec, Int.toNat_natCast, IntKind.signed, IntKind.bits] | (refine And.intro ?_ ?_; focus (first | (intros; omega) | (intros; simp_all; done))) | refine And.intro (?_ : CallAt _ _ _ _ _ _ _ _) ?_ | refine And.intro (?_ : CallAt _ _ _ _ _ _ _ _ ∧ _) ?_ | refine And.intro (?_ : AW _ _ _ _) ?_ | fail))
    · exact ⟨rfl, rfl, rfl⟩
    · omega
  | k + 1, b, left, ⟨hb, hn, ht, hr, hl, hv⟩ => by
    have ih := f130F n t k
    have g96 := f96 left (by omega)
    have g96b := f96 b (by omega)
    refine fn_walkW code43 (by simp) (by rfl) ?_
    (repeat' (first | refine NextAt.mk (fun hc => ?_) (fun pre n v post hc hkey => ?_) | refine Sni.mk (fun hc => ?_) ?_ | refine Both.mk ?_ ?_ | refine AW_seq ?_ | refine AW_block ?_ | ((first | refine AW_reg ?_ | refine AW_cond ?_ | refine AW_skip ?_ | refine AW_exit ?_ | refine AW_ret ?_ | refine AW_regD (by kernel_rfl) ?_ | refine AW_regX (by kernel_rfl) ?_ | refine CallAtG.t (Eq.refl true) ?_ | refine CallAtG.f (Eq.refl false) ?_); try simp (disch := omega) only [go_sem, seval, reduceCtorEq, ↓reduceIte, beq_dec, Int.toNat_natCast, IntKind.signed, IntKind.bits]) | refine And.intro (fun hc => (?_ : AW _ _ _ _)) (fun hc => (?_ : AW _ _ _ _)) | simp (disch := omega) only [go_sem, seval, reduceCtorEq, ↓reduceIte, beq_dec, Int.toNat_natCast, IntKind.signed, IntKind.bits] | (refine And.intro ?_ ?_; focus (first | (intros; omega) | (intros; simp_all; done))) | refine And.intro (?_ : CallAt _ _ _ _ _ _ _ _) ?_ | refine And.intro (?_ : CallAt _ _ _ _ _ _ _ _ ∧ _) ?_ | refine And.intro (?_ : AW _ _ _ _) ?_ | fail))
    · omega
    rw [walks_succ]
    refine AW_loopK [0, 1, 2, 3, 4, 23] [10, 11, 12, 13, 14, 15, 24, 25, 26, 27, 28, 29, 30, 31, 32, 33, 34, 35, 36, 37, 38, 39, 40, 41, 42, 43, 44, 45, 46, 47, 48, 49, 50, 51, 52, 53, 54, 55, 56, 57, 58, 59, 60, 61, 62, 63, 64, 65, 66, 67, 68, 69, 70, 71, 72, 73, 74, 75, 76, 77] (fun c : Nat => c ≤ n ∧ ∀ j, j < c → br n t k b left j = []) (fun c => [(24, .I c)]) (fun _ => []) (fun c => n - c) 0 ⟨by omega, by omega⟩ ?_ ?_
    · simp (disch := omega) only [go_sem, seval, reduceCtorEq, ↓reduceIte, beq_dec, Int.toNat_natCast, IntKind.signed, IntKind.bits, Int.natCast_zero]
    · rintro c ⟨hc, hbr⟩
      (repeat' (first | refine NextAt.mk (fun hc => ?_) (fun pre n v post hc hkey => ?_) | refine Sni.mk (fun hc => ?_) ?_ | refine Both.mk ?_ ?_ | refine AW_seq ?_ | refine AW_block ?_ | ((first | refine AW_reg ?_ | refine AW_cond ?_ | refine AW_skip ?_ | refine AW_exit ?_ | refine AW_ret ?_ | refine AW_regD (by kernel_rfl) ?_ | refine AW_regX (by kernel_rfl) ?_ | refine CallAtG.t (Eq.refl true) ?_ | refine CallAtG.f (Eq.refl false) ?_ | refine CallAt.mk _ (f116 ..) (by first | (intro h; cases h; done) | (intro _; repeat' (first | exact List.forall_mem_nil _ | trivial | refine List.forall_mem_cons.2 ⟨?_, ?_⟩)) | (intro _; simp [RV.flatP, CD.flatP]; done)) ?_ | refine CallAtG.mk _ (fun _ => f116 ..) ?_ | refine CallDS.mk _ (by simp [RV.data]) (fun _ => f116 ..) (by first | (intro h; cases h; done) | (intro _; repeat' (first | exact List.forall_mem_nil _ | trivial | refine List.forall_mem_cons.2 ⟨?_, ?_⟩)) | (intro _; simp [RV.flatP, CD.flatP]; done)) ?_ | refine CallAt.mk _ (g96 ..) (by first | (intro h; cases h; done) | (intro _; repeat' (first | exact List.forall_mem_nil _ | trivial | refine List.forall_mem_cons.2 ⟨?_, ?_⟩)) | (intro _; simp [RV.flatP, CD.flatP]; done)) ?_ | refine CallAtG.mk _ (fun _ => g96 ..) ?_ | refine CallDS.mk _ (by simp [RV.data]) (fun _ => g96 ..) (by first | (intro h; cases h; done) | (intro _; repeat' (first | exact List.forall_mem_nil _ | trivial | refine List.forall_mem_cons.2 ⟨?_, ?_⟩)) | (intro _; simp [RV.flatP, CD.flatP]; done)) ?_); try simp (disch := omega) only [go_sem, seval, reduceCtorEq, ↓reduceIte, beq_dec, Int.toNat_natCast, IntKind.signed, IntKind.bits]) | refine And.intro (fun hc => (?_ : AW _ _ _ _)) (fun hc => (?_ : AW _ _ _ _)) | simp (disch := omega) only [go_sem, seval, reduceCtorEq, ↓reduceIte, beq_dec, Int.toNat_natCast, IntKind.signed, IntKind.bits] | (refine And.intro ?_ ?_; focus (first | (intros; omega) | (intros; simp_all; done))) | refine And.intro (?_ : CallAt _ _ _ _ _ _ _ _) ?_ | refine And.intro (?_ : CallAt _ _ _ _ _ _ _ _ ∧ _) ?_ | refine And.intro (?_ : AW _ _ _ _) ?_ | fail))
      · -- the column stands already
        refine .mk (c + 1) ⟨by omega, step_lt hbr (by unfold br; rw [if_pos (.inl (by assumption))])⟩ (by omega) ?_
        simp (disch := omega) only [go_sem, seval, reduceCtorEq, ↓reduceIte, beq_dec, Int.toNat_natCast, IntKind.signed, IntKind.bits, Int.natCast_add, Int.natCast_one]
      · refine AW_loopK [0, 1, 2, 3, 4, 11, 12, 23, 24, 32, 33] [13, 14, 15, 34, 35, 36, 37, 38, 39, 40, 41, 42, 43, 44, 45, 46, 47, 48, 49, 50, 51, 52, 53, 54, 55, 56, 57, 58, 59, 60, 61, 62] (fun i : Nat => i ≤ t.length) (fun i => [(34, .I i), (12, .own 31), (13, .B (fitsB t left c i))]) (fun i => [(31, .arr 3 1 ((nextL t left c i).map fun x => [CD.I x]))]) (fun i => t.length - i) 0 (by omega) ?_ ?_
        · simp (disch := omega) only [go_sem, seval, reduceCtorEq, ↓reduceIte, beq_dec, Int.toNat_natCast, IntKind.signed, IntKind.bits, Int.natCast_zero, nextL_zero]
          simp [fitsB]
        · intro i hi
          have hvi := hv i
          have hnl := nextL_len t left c i
          have e0 : i < left.length → nth (nextL t left c i) i = nth left i := fun h => by rw [nextL_nth t left c i i h]; simp
          (repeat' (first | refine NextAt.mk (fun hc => ?_) (fun pre n v post hc hkey => ?_) | refine Sni.mk (fun hc => ?_) ?_ | refine Both.mk ?_ ?_ | refine AW_seq ?_ | refine AW_block ?_ | ((first | refine AW_reg ?_ | refine AW_cond ?_ | refine AW_skip ?_ | refine AW_exit ?_ | refine AW_ret ?_ | refine AW_regD (by kernel_rfl) ?_ | refine AW_regX (by kernel_rfl) ?_ | refine CallAtG.t (Eq.refl true) ?_ | refine CallAtG.f (Eq.refl false) ?_ | refine CallAt.mk _ (f116 ..) (by first | (intro h; cases h; done) | (intro _; repeat' (first | exact List.forall_mem_nil _ | trivial | refine List.forall_mem_cons.2 ⟨?_, ?_⟩)) | (intro _; simp [RV.flatP, CD.flatP, getD_map (fun r : List Int => [Row r]), getD_map (fun x : Int => [CD.I x]), nextL_len, hl, e0]; done)) ?_ | refine CallAtG.mk _ (fun _ => f116 ..) ?_ | refine CallDS.mk _ (by simp [RV.data]) (fun _ => f116 ..) (by first | (intro h; cases h; done) | (intro _; repeat' (first | exact List.forall_mem_nil _ | trivial | refine List.forall_mem_cons.2 ⟨?_, ?_⟩)) | (intro _; simp [RV.flatP, CD.flatP, getD_map (fun r : List Int => [Row r]), getD_map (fun x : Int => [CD.I x]), nextL_len, hl, e0]; done)) ?_); try simp (disch := omega) only [go_sem, seval, reduceCtorEq, ↓reduceIte, beq_dec, Int.toNat_natCast, IntKind.signed, IntKind.bits, getD_map (fun r : List Int => [Row r]), getD_map (fun x : Int => [CD.I x]), nextL_len, hl, e0]) | refine And.intro (fun hc => (?_ : AW _ _ _ _)) (fun hc => (?_ : AW _ _ _ _)) | simp (disch := omega) only [go_sem, seval, reduceCtorEq, ↓reduceIte, beq_dec, Int.toNat_natCast, IntKind.signed, IntKind.bits, getD_map (fun r : List Int => [Row r]), getD_map (fun x : Int => [CD.I x]), nextL_len, hl, e0] | (refine And.intro ?_ ?_; focus (first | (intros; omega) | (intros; simp_all; done))) | refine And.intro (?_ : CallAt _ _ _ _ _ _ _ _) ?_ | refine And.intro (?_ : CallAt _ _ _ _ _ _ _ _ ∧ _) ?_ | refine And.intro (?_ : AW _ _ _ _) ?_ | fail))
          · refine .mk (i + 1) (by omega) (by omega) ?_
            have e1 : fitsB t left c (i + 1) = fitsB t left c i := by rw [fitsB_succ]; simp_all
            simp (disch := omega) only [go_sem, seval, reduceCtorEq, ↓reduceIte, beq_dec, Int.toNat_natCast, IntKind.signed, IntKind.bits, Int.natCast_add, Int.natCast_one, e1, nextL_in t left c i (by omega) (by assumption), List.map_set]
          · refine .mk (i + 1) (by omega) (by omega) ?_
            have e1 : fitsB t left c (i + 1) = false := by rw [fitsB_succ]; simp_all
            simp (disch := omega) only [go_sem, seval, reduceCtorEq, ↓reduceIte, beq_dec, Int.toNat_natCast, IntKind.signed, IntKind.bits, Int.natCast_add, Int.natCast_one, e1, nextL_out t left c i (by assumption)]
          · refine .mk (i + 1) (by omega) (by omega) ?_
            have e1 : fitsB t left c (i + 1) = fitsB t left c i := by rw [fitsB_succ]; simp_all
            simp (disch := omega) only [go_sem, seval, reduceCtorEq, ↓reduceIte, beq_dec, Int.toNat_natCast, IntKind.signed, IntKind.bits, Int.natCast_add, Int.natCast_one, e1, nextL_out t left c i (by assumption)]
          · have hi' : i = t.length := by omega
            subst hi'
            cases hf : fitsB t left c t.length with
            | false =>
              (repeat' (first | refine NextAt.mk (fun hc => ?_) (fun pre n v post hc hkey => ?_) | refine Sni.mk (fun hc => ?_) ?_ | refine Both.mk ?_ ?_ | refine AW_seq ?_ | refine AW_block ?_ | ((first | refine AW_reg ?_ | refine AW_cond ?_ | refine AW_skip ?_ | refine AW_exit ?_ | refine AW_ret ?_ | refine AW_regD (by kernel_rfl) ?_ | refine AW_regX (by kernel_rfl) ?_ | refine CallAtG.t (Eq.refl true) ?_ | refine CallAtG.f (Eq.refl false) ?_); try simp (disch := omega) only [go_sem, seval, reduceCtorEq, ↓reduceIte, beq_dec, Int.toNat_natCast, IntKind.signed, IntKind.bits]) | refine And.intro (fun hc => (?_ : AW _ _ _ _)) (fun hc => (?_ : AW _ _ _ _)) | simp (disch := omega) only [go_sem, seval, reduceCtorEq, ↓reduceIte, beq_dec, Int.toNat_natCast, IntKind.signed, IntKind.bits] | (refine And.intro ?_ ?_; focus (first | (intros; omega) | (intros; simp_all; done))) | refine And.intro (?_ : CallAt _ _ _ _ _ _ _ _) ?_ | refine And.intro (?_ : CallAt _ _ _ _ _ _ _ _ ∧ _) ?_ | refine And.intro (?_ : AW _ _ _ _) ?_ | fail))
              refine .mk (c + 1) ⟨by omega, step_lt hbr (by unfold br; rw [if_pos (.inr hf)])⟩ (by omega) ?_
              simp (disch := omega) only [go_sem, seval, reduceCtorEq, ↓reduceIte, beq_dec, Int.toNat_natCast, IntKind.signed, IntKind.bits, Int.natCast_add, Int.natCast_one]
            | true =>
              have hbrc : br n t k b left c = walks n t k (b ++ [(c : Int)]) (nextL t left c t.length) := by
                unfold br; rw [if_neg]; rw [hf]; simp; assumption
              have g := ih (b ++ [(c : Int)]) (nextL t left c t.length) ⟨by simp; omega, hn, ht, hr, by omega, fun i hi => by
                rw [nextL_nth t left c _ i (by omega)]
                have := hv i hi
                split <;> omega⟩
              simp only [Row, List.map_append, List.map_cons, List.map_nil] at g
              rw [← hbrc] at g
              (repeat' (first | refine NextAt.mk (fun hc => ?_) (fun pre n v post hc hkey => ?_) | refine Sni.mk (fun hc => ?_) ?_ | refine Both.mk ?_ ?_ | refine AW_seq ?_ | refine AW_block ?_ | ((first | refine AW_reg ?_ | refine AW_cond ?_ | refine AW_skip ?_ | refine AW_exit ?_ | refine AW_ret ?_ | refine AW_regD (by kernel_rfl) ?_ | refine AW_regX (by kernel_rfl) ?_ | refine CallAtG.t (Eq.refl true) ?_ | refine CallAtG.f (Eq.refl false) ?_ | refine CallAt.mk _ (g96b ..) (by first | (intro h; cases h; done) | (intro _; repeat' (first | exact List.forall_mem_nil _ | trivial | refine List.forall_mem_cons.2 ⟨?_, ?_⟩)) | (intro _; simp [RV.flatP, CD.flatP, maxLen]; done)) ?_ | refine CallAtG.mk _ (fun _ => g96b ..) ?_ | refine CallDS.mk _ (by simp [RV.data]) (fun _ => g96b ..) (by first | (intro h; cases h; done) | (intro _; repeat' (first | exact List.forall_mem_nil _ | trivial | refine List.forall_mem_cons.2 ⟨?_, ?_⟩)) | (intro _; simp [RV.flatP, CD.flatP, maxLen]; done)) ?_); try simp (disch := omega) only [go_sem, seval, reduceCtorEq, ↓reduceIte, beq_dec, Int.toNat_natCast, IntKind.signed, IntKind.bits, maxLen]) | refine And.intro (fun hc => (?_ : AW _ _ _ _)) (fun hc => (?_ : AW _ _ _ _)) | simp (disch := omega) only [go_sem, seval, reduceCtorEq, ↓reduceIte, beq_dec, Int.toNat_natCast, IntKind.signed, IntKind.bits, maxLen] | (refine And.intro ?_ ?_; focus (first | (intros; omega) | (intros; simp_all; done))) | refine And.intro (?_ : CallAt _ _ _ _ _ _ _ _) ?_ | refine And.intro (?_ : CallAt _ _ _ _ _ _ _ _ ∧ _) ?_ | refine And.intro (?_ : AW _ _ _ _) ?_ | fail))
              refine CallAt.frz [31, 68] ?_
              simp (disch := omega) only [go_sem, seval, reduceCtorEq, ↓reduceIte, beq_dec, Int.toNat_natCast, IntKind.signed, IntKind.bits]
              cases hr : br n t k b left c with
              | nil =>
                rw [hr] at g
                simp only [List.isEmpty_nil, Bool.not_true, fo] at g
                (repeat' (first | refine NextAt.mk (fun hc => ?_) (fun pre n v post hc hkey => ?_) | refine Sni.mk (fun hc => ?_) ?_ | refine Both.mk ?_ ?_ | refine AW_seq ?_ | refine AW_block ?_ | ((first | refine AW_reg ?_ | refine AW_cond ?_ | refine AW_skip ?_ | refine AW_exit ?_ | refine AW_ret ?_ | refine AW_regD (by kernel_rfl) ?_ | refine AW_regX (by kernel_rfl) ?_ | refine CallAt.mkW (g ..) (by rfl) (by simp (disch := omega) only [go_sem, seval, reduceCtorEq, ↓reduceIte, beq_dec, Int.toNat_natCast, IntKind.signed, IntKind.bits]) (by rfl) (by rfl) (by first | (intro h; cases h; done) | (intro _; simp [RV.flatP, CD.flatP, flatOb, AO.flatP]; done)) ?_ | refine CallAtG.t (Eq.refl true) ?_ | refine CallAtG.f (Eq.refl false) ?_); try simp (disch := omega) only [go_sem, seval, reduceCtorEq, ↓reduceIte, beq_dec, Int.toNat_natCast, IntKind.signed, IntKind.bits]) | refine And.intro (fun hc => (?_ : AW _ _ _ _)) (fun hc => (?_ : AW _ _ _ _)) | simp (disch := omega) only [go_sem, seval, reduceCtorEq, ↓reduceIte, beq_dec, Int.toNat_natCast, IntKind.signed, IntKind.bits] | (refine And.intro ?_ ?_; focus (first | (intros; omega) | (intros; simp_all; done))) | refine And.intro (?_ : CallAt _ _ _ _ _ _ _ _) ?_ | refine And.intro (?_ : CallAt _ _ _ _ _ _ _ _ ∧ _) ?_ | refine And.intro (?_ : AW _ _ _ _) ?_ | fail))
                refine .mk (c + 1) ⟨by omega, step_lt hbr hr⟩ (by omega) ?_
                simp (disch := omega) only [go_sem, seval, reduceCtorEq, ↓reduceIte, beq_dec, Int.toNat_natCast, IntKind.signed, IntKind.bits, Int.natCast_add, Int.natCast_one]
              | cons o r =>
                rw [hr] at g
                simp only [List.isEmpty_cons, Bool.not_false] at g
                (repeat' (first | refine NextAt.mk (fun hc => ?_) (fun pre n v post hc hkey => ?_) | refine Sni.mk (fun hc => ?_) ?_ | refine Both.mk ?_ ?_ | refine AW_seq ?_ | refine AW_block ?_ | ((first | refine AW_reg ?_ | refine AW_cond ?_ | refine AW_skip ?_ | refine AW_exit ?_ | refine AW_ret ?_ | refine AW_regD (by kernel_rfl) ?_ | refine AW_regX (by kernel_rfl) ?_ | refine CallAt.mkW (g ..) (by rfl) (by simp (disch := omega) only [go_sem, seval, reduceCtorEq, ↓reduceIte, beq_dec, Int.toNat_natCast, IntKind.signed, IntKind.bits]) (by rfl) (by rfl) (by first | (intro h; cases h; done) | (intro _; simp [RV.flatP, CD.flatP, flatOb, AO.flatP]; done)) ?_ | refine CallAtG.t (Eq.refl true) ?_ | refine CallAtG.f (Eq.refl false) ?_); try simp (disch := omega) only [go_sem, seval, reduceCtorEq, ↓reduceIte, beq_dec, Int.toNat_natCast, IntKind.signed, IntKind.bits]) | refine And.intro (fun hc => (?_ : AW _ _ _ _)) (fun hc => (?_ : AW _ _ _ _)) | simp (disch := omega) only [go_sem, seval, reduceCtorEq, ↓reduceIte, beq_dec, Int.toNat_natCast, IntKind.signed, IntKind.bits] | (refine And.intro ?_ ?_; focus (first | (intros; omega) | (intros; simp_all; done))) | refine And.intro (?_ : CallAt _ _ _ _ _ _ _ _) ?_ | refine And.intro (?_ : CallAt _ _ _ _ _ _ _ _ ∧ _) ?_ | refine And.intro (?_ : AW _ _ _ _) ?_ | fail))
                obtain ⟨q1, q2⟩ := flatMap_first (f := br n t k b left) (n := n) (c := c) (by omega) hbr (by rw [hr]; simp)
                rw [q1, q2, hr]
                exact ⟨rfl, rfl, rfl⟩
      · rw [show c = n by omega] at hbr
        have e : (List.range n).flatMap (br n t k b left) = [] := by
          rw [List.flatMap_eq_nil_iff]
          intro j hj
          exact hbr j (List.mem_range.1 hj)
        rw [e]
        exact ⟨rfl, rfl, rfl⟩
theorem tab_ok {n : Int} {t : List (List Int)} (h : validT n t = true) : 0 ≤ n ∧ n ≤ 7 ∧ t.length ≤ 16 ∧ ∀ i, i < t.length → (nth t i).length ≤ 7 := by
  obtain ⟨h1, h2, h3, h4⟩ := validT_of h
  refine ⟨h1, h2, h3, fun i hi => ?_⟩
  have := asc_len (h4 i hi)
  omega
theorem f97F (n : Int) (t : List (List Int)) (h : validT n t = true) : FnW Try.prog 30 [.I n, .c (Tab t), vF] [(1000006, .box 25 [.c .nil]), (1000007, .box 4 [.B false])]
    [] [(1000006, .box 25 [.c (fo (walks n.toNat t n.toNat [] (t.map fun r => (r.length : Int))))]), (1000007, .box 4 [.B (!(walks n.toNat t n.toNat [] (t.map fun r => (r.length : Int))).isEmpty)])] [1000006, 1000007] := by
  obtain ⟨h1, h2, h3, h4⟩ := tab_ok h
  obtain ⟨m, rfl⟩ : ∃ m : Nat, n = m := ⟨n.toNat, by omega⟩
  simp only [Int.toNat_natCast]
  have hnth : ∀ i, i < t.length → nth (t.map fun r => (r.length : Int)) i = ((nth t i).length : Int) := fun i hi => by
    rw [nth_eq _ i (by simpa using hi), nth_eq _ i hi]; simp
  have g130 := f130F m t m [] (t.map fun r => (r.length : Int)) ⟨by simp, by omega, h3, fun i hi => by have := h4 i hi; omega, by simp, fun i hi => by
    rw [hnth i hi]
    have := h4 i hi
    omega⟩
  refine fn_walkW code30 (by simp) (by rfl) ?_
  (repeat' (first | refine NextAt.mk (fun hc => ?_) (fun pre n v post hc hkey => ?_) | refine Sni.mk (fun hc => ?_) ?_ | refine Both.mk ?_ ?_ | refine AW_seq ?_ | refine AW_block ?_ | ((first | refine AW_reg ?_ | refine AW_cond ?_ | refine AW_skip ?_ | refine AW_exit ?_ | refine AW_ret ?_ | refine AW_regD (by kernel_rfl) ?_ | refine AW_regX (by kernel_rfl) ?_ | refine CallAtG.t (Eq.refl true) ?_ | refine CallAtG.f (Eq.refl false) ?_); try simp (disch := omega) only [go_sem, seval, reduceCtorEq, ↓reduceIte, beq_dec, Int.toNat_natCast, IntKind.signed, IntKind.bits]) | refine And.intro (fun hc => (?_ : AW _ _ _ _)) (fun hc => (?_ : AW _ _ _ _)) | simp (disch := omega) only [go_sem, seval, reduceCtorEq, ↓reduceIte, beq_dec, Int.toNat_natCast, IntKind.signed, IntKind.bits] | (refine And.intro ?_ ?_; focus (first | (intros; omega) | (intros; simp_all; done))) | refine And.intro (?_ : CallAt _ _ _ _ _ _ _ _) ?_ | refine And.intro (?_ : CallAt _ _ _ _ _ _ _ _ ∧ _) ?_ | refine And.intro (?_ : AW _ _ _ _) ?_ | fail))
  refine AW_nil 6 900 3 1 (by rfl) ?_
  refine AW_loopK [0, 1, 2, 9, 10] [6, 8, 11, 12, 13, 14, 15, 16, 17, 18, 19, 20] (fun i : Nat => i ≤ t.length) (fun i => [(11, .I i), (6, .own 900)]) (fun i => [(900, .arr 3 1 (((t.take i).map fun r => (r.length : Int)).map fun x => [CD.I x]))]) (fun i => t.length - i) 0 (by omega) ?_ ?_
  · simp (disch := omega) only [go_sem, seval, reduceCtorEq, ↓reduceIte, beq_dec, Int.toNat_natCast, IntKind.signed, IntKind.bits, Int.natCast_zero]
  · intro i hi
    (repeat' (first | refine NextAt.mk (fun hc => ?_) (fun pre n v post hc hkey => ?_) | refine Sni.mk (fun hc => ?_) ?_ | refine Both.mk ?_ ?_ | refine AW_seq ?_ | refine AW_block ?_ | ((first | refine AW_reg ?_ | refine AW_cond ?_ | refine AW_skip ?_ | refine AW_exit ?_ | refine AW_ret ?_ | refine AW_regD (by kernel_rfl) ?_ | refine AW_regX (by kernel_rfl) ?_ | refine CallAtG.t (Eq.refl true) ?_ | refine CallAtG.f (Eq.refl false) ?_); try simp (disch := omega) only [go_sem, seval, reduceCtorEq, ↓reduceIte, beq_dec, Int.toNat_natCast, IntKind.signed, IntKind.bits, maxLen, getD_map (fun r : List Int => [Row r]), List.length_take]) | refine And.intro (fun hc => (?_ : AW _ _ _ _)) (fun hc => (?_ : AW _ _ _ _)) | simp (disch := omega) only [go_sem, seval, reduceCtorEq, ↓reduceIte, beq_dec, Int.toNat_natCast, IntKind.signed, IntKind.bits, maxLen, getD_map (fun r : List Int => [Row r]), List.length_take] | (refine And.intro ?_ ?_; focus (first | (intros; omega) | (intros; simp_all; done))) | refine And.intro (?_ : CallAt _ _ _ _ _ _ _ _) ?_ | refine And.intro (?_ : CallAt _ _ _ _ _ _ _ _ ∧ _) ?_ | refine And.intro (?_ : AW _ _ _ _) ?_ | fail))
    · refine .mk (i + 1) (by omega) (by omega) ?_
      have e : t.take (i + 1) = t.take i ++ [nth t i] := by rw [List.take_succ_eq_append_getElem (by omega), nth_eq t i (by omega)]
      simp (disch := omega) only [go_sem, seval, reduceCtorEq, ↓reduceIte, beq_dec, Int.toNat_natCast, IntKind.signed, IntKind.bits, Int.natCast_add, Int.natCast_one, e, List.map_append]
    · have hi' : i = t.length := by omega
      subst hi'
      refine CallAt.frz [900] ?_
      have g := FnW.nil (pre := [_, _]) (post := [_, _]) g130
      simp only [List.cons_append, List.nil_append] at g
      simp only [List.take_length]
      (repeat' (first | refine NextAt.mk (fun hc => ?_) (fun pre n v post hc hkey => ?_) | refine Sni.mk (fun hc => ?_) ?_ | refine Both.mk ?_ ?_ | refine AW_seq ?_ | refine AW_block ?_ | ((first | refine AW_reg ?_ | refine AW_cond ?_ | refine AW_skip ?_ | refine AW_exit ?_ | refine AW_ret ?_ | refine AW_regD (by kernel_rfl) ?_ | refine AW_regX (by kernel_rfl) ?_ | refine CallAt.mkW (g ..) (by rfl) (by simp (disch := omega) only [go_sem, seval, reduceCtorEq, ↓reduceIte, beq_dec, Int.toNat_natCast, IntKind.signed, IntKind.bits]) (by rfl) (by rfl) (by first | (intro h; cases h; done) | (intro _; simp [RV.flatP, CD.flatP, flatOb, AO.flatP]; done)) ?_ | refine CallAtG.t (Eq.refl true) ?_ | refine CallAtG.f (Eq.refl false) ?_); try simp (disch := omega) only [go_sem, seval, reduceCtorEq, ↓reduceIte, beq_dec, Int.toNat_natCast, IntKind.signed, IntKind.bits]) | refine And.intro (fun hc => (?_ : AW _ _ _ _)) (fun hc => (?_ : AW _ _ _ _)) | simp (disch := omega) only [go_sem, seval, reduceCtorEq, ↓reduceIte, beq_dec, Int.toNat_natCast, IntKind.signed, IntKind.bits] | (refine And.intro ?_ ?_; focus (first | (intros; omega) | (intros; simp_all; done))) | refine And.intro (?_ : CallAt _ _ _ _ _ _ _ _) ?_ | refine And.intro (?_ : CallAt _ _ _ _ _ _ _ _ ∧ _) ?_ | refine And.intro (?_ : AW _ _ _ _) ?_ | fail))
def ords (n : Int) (t : List (List Int)) : List (List Int) := if validT n t = true then walks n.toNat t n.toNat [] (t.map fun r => (r.length : Int)) else []
def firstE (n : Int) (t : List (List Int)) : Int := if validT n t = true then (if (ords n t).isEmpty = true then 7 else 0) else 1
theorem rn6 : rn 1000006 = 6 := rfl
theorem rn7 : rn 1000007 = 7 := rfl
theorem f51 (n : Int) (t : List (List Int)) : FnR Try.prog 20 [.I n, .c (Tab t)] [.c (fo (ords n t)), .c (.I (firstE n t))] := by
  refine fn_walk code20 (by simp) ?_
  have g38 := f38 n t
  unfold firstE ords
  cases hv : validT n t with
  | false =>
    rw [hv] at g38
    simp only [Bool.false_eq_true, if_false, fo]
    (repeat' (first | refine NextAt.mk (fun hc => ?_) (fun pre n v post hc hkey => ?_) | refine Sni.mk (fun hc => ?_) ?_ | refine Both.mk ?_ ?_ | refine AW_seq ?_ | refine AW_block ?_ | ((first | refine AW_reg ?_ | refine AW_cond ?_ | refine AW_skip ?_ | refine AW_exit ?_ | refine AW_ret ?_ | refine AW_regD (by kernel_rfl) ?_ | refine AW_regX (by kernel_rfl) ?_ | refine CallAtG.t (Eq.refl true) ?_ | refine CallAtG.f (Eq.refl false) ?_ | refine CallAt.mk _ (g38 ..) (by first | (intro h; cases h; done) | (intro _; repeat' (first | exact List.forall_mem_nil _ | trivial | refine List.forall_mem_cons.2 ⟨?_, ?_⟩)) | (intro _; simp [RV.flatP, CD.flatP]; done)) ?_ | refine CallAtG.mk _ (fun _ => g38 ..) ?_ | refine CallDS.mk _ (by simp [RV.data]) (fun _ => g38 ..) (by first | (intro h; cases h; done) | (intro _; repeat' (first | exact List.forall_mem_nil _ | trivial | refine List.forall_mem_cons.2 ⟨?_, ?_⟩)) | (intro _; simp [RV.flatP, CD.flatP]; done)) ?_); try simp (disch := omega) only [go_sem, seval, reduceCtorEq, ↓reduceIte, beq_dec, Int.toNat_natCast, IntKind.signed, IntKind.bits]) | refine And.intro (fun hc => (?_ : AW _ _ _ _)) (fun hc => (?_ : AW _ _ _ _)) | simp (disch := omega) only [go_sem, seval, reduceCtorEq, ↓reduceIte, beq_dec, Int.toNat_natCast, IntKind.signed, IntKind.bits] | (refine And.intro ?_ ?_; focus (first | (intros; omega) | (intros; simp_all; done))) | refine And.intro (?_ : CallAt _ _ _ _ _ _ _ _) ?_ | refine And.intro (?_ : CallAt _ _ _ _ _ _ _ _ ∧ _) ?_ | refine And.intro (?_ : AW _ _ _ _) ?_ | fail))
  | true =>
    rw [hv] at g38
    have g := FnW.low (f97F n t hv)
    simp only [renL, AV.ren, renOb, AO.ren, List.map_cons, List.map_nil, rn6, rn7] at g
    simp only [if_true]
    generalize walks n.toNat t n.toNat [] (t.map fun r => (r.length : Int)) = W at g
    cases W with
    | nil =>
      simp only [List.isEmpty_nil, Bool.not_true, fo, if_true] at g ⊢
      (repeat' (first | refine NextAt.mk (fun hc => ?_) (fun pre n v post hc hkey => ?_) | refine Sni.mk (fun hc => ?_) ?_ | refine Both.mk ?_ ?_ | refine AW_seq ?_ | refine AW_block ?_ | ((first | refine AW_reg ?_ | refine AW_cond ?_ | refine AW_skip ?_ | refine AW_exit ?_ | refine AW_ret ?_ | refine AW_regD (by kernel_rfl) ?_ | refine AW_regX (by kernel_rfl) ?_ | refine CallAt.mkW (g ..) (by rfl) (by simp (disch := omega) only [go_sem, seval, reduceCtorEq, ↓reduceIte, beq_dec, Int.toNat_natCast, IntKind.signed, IntKind.bits]) (by rfl) (by rfl) (by first | (intro h; cases h; done) | (intro _; simp [RV.flatP, CD.flatP, flatOb, AO.flatP]; done)) ?_ | refine CallAtG.t (Eq.refl true) ?_ | refine CallAtG.f (Eq.refl false) ?_ | refine CallAt.mk _ (g38 ..) (by first | (intro h; cases h; done) | (intro _; repeat' (first | exact List.forall_mem_nil _ | trivial | refine List.forall_mem_cons.2 ⟨?_, ?_⟩)) | (intro _; simp [RV.flatP, CD.flatP]; done)) ?_ | refine CallAtG.mk _ (fun _ => g38 ..) ?_ | refine CallDS.mk _ (by simp [RV.data]) (fun _ => g38 ..) (by first | (intro h; cases h; done) | (intro _; repeat' (first | exact List.forall_mem_nil _ | trivial | refine List.forall_mem_cons.2 ⟨?_, ?_⟩)) | (intro _; simp [RV.flatP, CD.flatP]; done)) ?_); try simp (disch := omega) only [go_sem, seval, reduceCtorEq, ↓reduceIte, beq_dec, Int.toNat_natCast, IntKind.signed, IntKind.bits]) | refine And.intro (fun hc => (?_ : AW _ _ _ _)) (fun hc => (?_ : AW _ _ _ _)) | simp (disch := omega) only [go_sem, seval, reduceCtorEq, ↓reduceIte, beq_dec, Int.toNat_natCast, IntKind.signed, IntKind.bits] | (refine And.intro ?_ ?_; focus (first | (intros; omega) | (intros; simp_all; done))) | refine And.intro (?_ : CallAt _ _ _ _ _ _ _ _) ?_ | refine And.intro (?_ : CallAt _ _ _ _ _ _ _ _ ∧ _) ?_ | refine And.intro (?_ : AW _ _ _ _) ?_ | fail))
    | cons o r =>
      simp only [List.isEmpty_cons, Bool.not_false, fo, Bool.false_eq_true, if_false] at g ⊢
      (repeat' (first | refine NextAt.mk (fun hc => ?_) (fun pre n v post hc hkey => ?_) | refine Sni.mk (fun hc => ?_) ?_ | refine Both.mk ?_ ?_ | refine AW_seq ?_ | refine AW_block ?_ | ((first | refine AW_reg ?_ | refine AW_cond ?_ | refine AW_skip ?_ | refine AW_exit ?_ | refine AW_ret ?_ | refine AW_regD (by kernel_rfl) ?_ | refine AW_regX (by kernel_rfl) ?_ | refine CallAt.mkW (g ..) (by rfl) (by simp (disch := omega) only [go_sem, seval, reduceCtorEq, ↓reduceIte, beq_dec, Int.toNat_natCast, IntKind.signed, IntKind.bits]) (by rfl) (by rfl) (by first | (intro h; cases h; done) | (intro _; simp [RV.flatP, CD.flatP, flatOb, AO.flatP]; done)) ?_ | refine CallAtG.t (Eq.refl true) ?_ | refine CallAtG.f (Eq.refl false) ?_ | refine CallAt.mk _ (g38 ..) (by first | (intro h; cases h; done) | (intro _; repeat' (first | exact List.forall_mem_nil _ | trivial | refine List.forall_mem_cons.2 ⟨?_, ?_⟩)) | (intro _; simp [RV.flatP, CD.flatP]; done)) ?_ | refine CallAtG.mk _ (fun _ => g38 ..) ?_ | refine CallDS.mk _ (by simp [RV.data]) (fun _ => g38 ..) (by first | (intro h; cases h; done) | (intro _; repeat' (first | exact List.forall_mem_nil _ | trivial | refine List.forall_mem_cons.2 ⟨?_, ?_⟩)) | (intro _; simp [RV.flatP, CD.flatP]; done)) ?_); try simp (disch := omega) only [go_sem, seval, reduceCtorEq, ↓reduceIte, beq_dec, Int.toNat_natCast, IntKind.signed, IntKind.bits]) | refine And.intro (fun hc => (?_ : AW _ _ _ _)) (fun hc => (?_ : AW _ _ _ _)) | simp (disch := omega) only [go_sem, seval, reduceCtorEq, ↓reduceIte, beq_dec, Int.toNat_natCast, IntKind.signed, IntKind.bits] | (refine And.intro ?_ ?_; focus (first | (intros; omega) | (intros; simp_all; done))) | refine And.intro (?_ : CallAt _ _ _ _ _ _ _ _) ?_ | refine And.intro (?_ : CallAt _ _ _ _ _ _ _ _ ∧ _) ?_ | refine And.intro (?_ : AW _ _ _ _) ?_ | fail))
def poss (n : Int) (t : List (List Int)) : Bool := validT n t && !(ords n t).isEmpty
theorem f36 (n : Int) (t : List (List Int)) : FnR Try.prog 8 [.I n, .c (Tab t)] [.c (.B (poss n t))] := by
  refine fn_walk code8 (by simp) ?_
  (repeat' (first | refine NextAt.mk (fun hc => ?_) (fun pre n v post hc hkey => ?_) | refine Sni.mk (fun hc => ?_) ?_ | refine Both.mk ?_ ?_ | refine AW_seq ?_ | refine AW_block ?_ | ((first | refine AW_reg ?_ | refine AW_cond ?_ | refine AW_skip ?_ | refine AW_exit ?_ | refine AW_ret ?_ | refine AW_regD (by kernel_rfl) ?_ | refine AW_regX (by kernel_rfl) ?_ | refine CallAtG.t (Eq.refl true) ?_ | refine CallAtG.f (Eq.refl false) ?_ | refine CallAt.mk _ (f51 ..) (by first | (intro h; cases h; done) | (intro _; repeat' (first | exact List.forall_mem_nil _ | trivial | refine List.forall_mem_cons.2 ⟨?_, ?_⟩)) | (intro _; simp [RV.flatP, CD.flatP]; done)) ?_ | refine CallAtG.mk _ (fun _ => f51 ..) ?_ | refine CallDS.mk _ (by simp [RV.data]) (fun _ => f51 ..) (by first | (intro h; cases h; done) | (intro _; repeat' (first | exact List.forall_mem_nil _ | trivial | refine List.forall_mem_cons.2 ⟨?_, ?_⟩)) | (intro _; simp [RV.flatP, CD.flatP]; done)) ?_); try simp (disch := omega) only [go_sem, seval, reduceCtorEq, ↓reduceIte, beq_dec, Int.toNat_natCast, IntKind.signed, IntKind.bits]) | refine And.intro (fun hc => (?_ : AW _ _ _ _)) (fun hc => (?_ : AW _ _ _ _)) | simp (disch := omega) only [go_sem, seval, reduceCtorEq, ↓reduceIte, beq_dec, Int.toNat_natCast, IntKind.signed, IntKind.bits] | (refine And.intro ?_ ?_; focus (first | (intros; omega) | (intros; simp_all; done))) | refine And.intro (?_ : CallAt _ _ _ _ _ _ _ _) ?_ | refine And.intro (?_ : CallAt _ _ _ _ _ _ _ _ ∧ _) ?_ | refine And.intro (?_ : AW _ _ _ _) ?_ | fail))
  unfold firstE poss
  cases validT n t <;> cases (ords n t).isEmpty <;> rfl
end Go.Proofs.Ytcimlelkeppoiaa

open Go Go.AL Go.RowKit
namespace Go.Proofs.Ytcimlelkeppoiaa
set_option maxRecDepth 20000
theorem asc_pw {l : List Int} {lo hi : Int} (h : asc l lo hi = true) : l.Pairwise (· < ·) := by
  rw [List.pairwise_iff_getElem]
  intro i j hi' hj hij
  have key : ∀ d, i + d < l.length → 0 < d → nth l i < nth l (i + d) := by
    intro d
    induction d with
    | zero => intro _ h; omega
    | succ d ih =>
      intro hd _
      have h1 := of_decide_eq_true h (i + (d + 1)) hd
      unfold Asc at h1
      have h2 := h1.2.2 (by omega)
      rw [show i + (d + 1) - 1 = i + d by omega] at h2
      rcases Nat.eq_zero_or_pos d with rfl | h0
      · exact h2
      · exact Int.lt_trans (ih (by omega) h0) h2
  have := key (j - i) (by omega) (by omega)
  rw [show i + (j - i) = j by omega, nth_eq l i hi', nth_eq l j hj] at this
  exact this
theorem pw_ext : ∀ {a b : List Int}, a.Pairwise (· < ·) → b.Pairwise (· < ·) → (∀ x, x ∈ a ↔ x ∈ b) → a = b
  | [], [], _, _, _ => rfl
  | [], y :: b, _, _, h => absurd ((h y).2 (by simp)) (by simp)
  | x :: a, [], _, _, h => absurd ((h x).1 (by simp)) (by simp)
  | x :: a, y :: b, ha, hb, h => by
    rw [List.pairwise_cons] at ha hb
    have h1 := (h x).1 (by simp)
    have h2 := (h y).2 (by simp)
    have e : x = y := by
      rcases List.mem_cons.1 h1 with e | h1
      · exact e
      · rcases List.mem_cons.1 h2 with e | h2
        · exact e.symm
        · have := ha.1 y h2; have := hb.1 x h1; omega
    subst e
    congr 1
    refine pw_ext ha.2 hb.2 fun z => ⟨fun hz => ?_, fun hz => ?_⟩
    · rcases List.mem_cons.1 ((h z).1 (List.mem_cons_of_mem _ hz)) with e | h'
      · have := ha.1 z hz; omega
      · exact h'
    · rcases List.mem_cons.1 ((h z).2 (List.mem_cons_of_mem _ hz)) with e | h'
      · have := hb.1 z hz; omega
      · exact h'
theorem pw_nodup {l : List Int} (h : l.Pairwise (· < ·)) : l.Nodup := h.imp fun h e => by omega
def cutP (r cols : List Int) (k : Nat) : List Int := ((r.take k).filter fun c => decide (c ∈ cols)).map (idx cols)
theorem cutP_succ (r cols : List Int) (k : Nat) (h : k < r.length) : cutP r cols (k + 1) = if nth r k ∈ cols then cutP r cols k ++ [idx cols (nth r k)] else cutP r cols k := by
  unfold cutP
  rw [List.take_succ_eq_append_getElem h, List.filter_append, List.map_append, ← nth_eq r k h]
  by_cases h : nth r k ∈ cols <;> simp [h]
theorem cutP_len (r cols : List Int) (k : Nat) : (cutP r cols k).length ≤ k := by
  unfold cutP
  rw [List.length_map]
  refine Nat.le_trans (List.length_filter_le _ _) ?_
  simp; omega
theorem idx_nth {l : List Int} (h : l.Nodup) {k : Nat} (hk : k < l.length) : idx l (nth l k) = k := by
  refine idx_found hk rfl fun j hj e => ?_
  rw [nth_eq l j (by omega), nth_eq l k hk] at e
  exact (List.pairwise_iff_getElem.1 h j k (by omega) hk hj) e
theorem cut_eq {r cols : List Int} (hr : r.Pairwise (· < ·)) (hc : cols.Pairwise (· < ·)) : cutP r cols r.length = cutN r cols cols.length := by
  have hcn := pw_nodup hc
  have mono : ∀ a b, a ∈ cols → b ∈ cols → a < b → idx cols a < idx cols b := by
    intro a b ha hb hab
    obtain ⟨i, hi, rfl⟩ := List.getElem_of_mem ha
    obtain ⟨j, hj, rfl⟩ := List.getElem_of_mem hb
    rw [← nth_eq cols i hi, ← nth_eq cols j hj, idx_nth hcn hi, idx_nth hcn hj]
    rcases Nat.lt_trichotomy i j with h | h | h
    · omega
    · subst h; omega
    · have := List.pairwise_iff_getElem.1 hc j i hj hi h; omega
  refine pw_ext ?_ ?_ fun x => ?_
  · unfold cutP
    rw [List.take_length, List.pairwise_map]
    refine (hr.filter _).imp_of_mem ?_
    intro a b ha hb hab
    simp only [List.mem_filter, decide_eq_true_eq] at ha hb
    exact mono a b ha.2 hb.2 hab
  · unfold cutN
    rw [List.pairwise_map]
    refine (List.pairwise_lt_range.filter _).imp ?_
    intro a b h; omega
  · unfold cutP cutN
    rw [List.take_length]
    simp only [List.mem_map, List.mem_filter, decide_eq_true_eq, List.mem_range]
    constructor
    · rintro ⟨c, ⟨h1, h2⟩, rfl⟩
      obtain ⟨i, hi, rfl⟩ := List.getElem_of_mem h2
      refine ⟨i, ⟨hi, ?_⟩, ?_⟩
      · rw [nth_eq cols i hi]; exact h1
      · rw [← nth_eq cols i hi, idx_nth hcn hi]
    · rintro ⟨k, ⟨h1, h2⟩, rfl⟩
      exact ⟨nth cols k, ⟨h2, nth_mem cols k h1⟩, idx_nth hcn h1⟩
theorem idx_nonneg {l : List Int} {x : Int} : 0 ≤ idx l x ↔ x ∈ l := by
  unfold idx
  split <;> simp_all
theorem f27 (n : Int) (t : List (List Int)) (rows cols : List Int) : FnR Try.prog 28 [.I n, .c (Tab t), .c (Row rows), .c (Row cols)] [OTab (cutR n t rows cols), .c (.I (cutErr n t rows cols))] := by
  refine fn_walk code28 (by simp) ?_
  unfold cutR cutErr
  cases hv : validT n t with
  | false =>
    have g38 := f38 n t
    rw [hv] at g38
    (repeat' (first | refine NextAt.mk (fun hc => ?_) (fun pre n v post hc hkey => ?_) | refine Sni.mk (fun hc => ?_) ?_ | refine Both.mk ?_ ?_ | refine AW_seq ?_ | refine AW_block ?_ | ((first | refine AW_reg ?_ | refine AW_cond ?_ | refine AW_skip ?_ | refine AW_exit ?_ | refine AW_ret ?_ | refine AW_regD (by kernel_rfl) ?_ | refine AW_regX (by kernel_rfl) ?_ | refine CallAtG.t (Eq.refl true) ?_ | refine CallAtG.f (Eq.refl false) ?_ | refine CallAt.mk _ (g38 ..) (by first | (intro h; cases h; done) | (intro _; repeat' (first | exact List.forall_mem_nil _ | trivial | refine List.forall_mem_cons.2 ⟨?_, ?_⟩)) | (intro _; simp [RV.flatP, CD.flatP]; done)) ?_ | refine CallAtG.mk _ (fun _ => g38 ..) ?_ | refine CallDS.mk _ (by simp [RV.data]) (fun _ => g38 ..) (by first | (intro h; cases h; done) | (intro _; repeat' (first | exact List.forall_mem_nil _ | trivial | refine List.forall_mem_cons.2 ⟨?_, ?_⟩)) | (intro _; simp [RV.flatP, CD.flatP]; done)) ?_); try simp (disch := omega) only [go_sem, seval, reduceCtorEq, ↓reduceIte, beq_dec, Int.toNat_natCast, IntKind.signed, IntKind.bits]) | refine And.intro (fun hc => (?_ : AW _ _ _ _)) (fun hc => (?_ : AW _ _ _ _)) | simp (disch := omega) only [go_sem, seval, reduceCtorEq, ↓reduceIte, beq_dec, Int.toNat_natCast, IntKind.signed, IntKind.bits] | (refine And.intro ?_ ?_; focus (first | (intros; omega) | (intros; simp_all; done))) | refine And.intro (?_ : CallAt _ _ _ _ _ _ _ _) ?_ | refine And.intro (?_ : CallAt _ _ _ _ _ _ _ _ ∧ _) ?_ | refine And.intro (?_ : AW _ _ _ _) ?_ | fail))
  | true =>
    have g38 := f38 n t
    rw [hv] at g38
    obtain ⟨h1, h2, h3, h4⟩ := validT_of hv
    cases hp : part n t rows cols with
    | false =>
      unfold part at hp
      (repeat' (first | refine NextAt.mk (fun hc => ?_) (fun pre n v post hc hkey => ?_) | refine Sni.mk (fun hc => ?_) ?_ | refine Both.mk ?_ ?_ | refine AW_seq ?_ | refine AW_block ?_ | ((first | refine AW_reg ?_ | refine AW_cond ?_ | refine AW_skip ?_ | refine AW_exit ?_ | refine AW_ret ?_ | refine AW_regD (by kernel_rfl) ?_ | refine AW_regX (by kernel_rfl) ?_ | refine CallAtG.t (Eq.refl true) ?_ | refine CallAtG.f (Eq.refl false) ?_ | refine CallAt.mk _ (g38 ..) (by first | (intro h; cases h; done) | (intro _; repeat' (first | exact List.forall_mem_nil _ | trivial | refine List.forall_mem_cons.2 ⟨?_, ?_⟩)) | (intro _; simp [RV.flatP, CD.flatP]; done)) ?_ | refine CallAtG.mk _ (fun _ => g38 ..) ?_ | refine CallDS.mk _ (by simp [RV.data]) (fun _ => g38 ..) (by first | (intro h; cases h; done) | (intro _; repeat' (first | exact List.forall_mem_nil _ | trivial | refine List.forall_mem_cons.2 ⟨?_, ?_⟩)) | (intro _; simp [RV.flatP, CD.flatP]; done)) ?_ | refine CallAt.mk _ (f81 ..) (by first | (intro h; cases h; done) | (intro _; repeat' (first | exact List.forall_mem_nil _ | trivial | refine List.forall_mem_cons.2 ⟨?_, ?_⟩)) | (intro _; simp [RV.flatP, CD.flatP]; done)) ?_ | refine CallAtG.mk _ (fun _ => f81 ..) ?_ | refine CallDS.mk _ (by simp [RV.data]) (fun _ => f81 ..) (by first | (intro h; cases h; done) | (intro _; repeat' (first | exact List.forall_mem_nil _ | trivial | refine List.forall_mem_cons.2 ⟨?_, ?_⟩)) | (intro _; simp [RV.flatP, CD.flatP]; done)) ?_); try simp (disch := omega) only [go_sem, seval, reduceCtorEq, ↓reduceIte, beq_dec, Int.toNat_natCast, IntKind.signed, IntKind.bits]) | refine And.intro (fun hc => (?_ : AW _ _ _ _)) (fun hc => (?_ : AW _ _ _ _)) | simp (disch := omega) only [go_sem, seval, reduceCtorEq, ↓reduceIte, beq_dec, Int.toNat_natCast, IntKind.signed, IntKind.bits] | (refine And.intro ?_ ?_; focus (first | (intros; omega) | (intros; simp_all; done))) | refine And.intro (?_ : CallAt _ _ _ _ _ _ _ _) ?_ | refine And.intro (?_ : CallAt _ _ _ _ _ _ _ _ ∧ _) ?_ | refine And.intro (?_ : AW _ _ _ _) ?_ | fail))
      simp_all
    | true =>
      simp only [part, Bool.and_eq_true] at hp
      have hcl := asc_len hp.2
      have hrl := asc_len hp.1
      have hrr := asc_rng hp.1
      have hcp := asc_pw hp.2
      have g81a := f81 rows t.length
      have g81b := f81 cols n
      rw [hp.1] at g81a
      rw [hp.2] at g81b
      (repeat' (first | refine NextAt.mk (fun hc => ?_) (fun pre n v post hc hkey => ?_) | refine Sni.mk (fun hc => ?_) ?_ | refine Both.mk ?_ ?_ | refine AW_seq ?_ | refine AW_block ?_ | ((first | refine AW_reg ?_ | refine AW_cond ?_ | refine AW_skip ?_ | refine AW_exit ?_ | refine AW_ret ?_ | refine AW_regD (by kernel_rfl) ?_ | refine AW_regX (by kernel_rfl) ?_ | refine CallAtG.t (Eq.refl true) ?_ | refine CallAtG.f (Eq.refl false) ?_ | refine CallAt.mk _ (g38 ..) (by first | (intro h; cases h; done) | (intro _; repeat' (first | exact List.forall_mem_nil _ | trivial | refine List.forall_mem_cons.2 ⟨?_, ?_⟩)) | (intro _; simp [RV.flatP, CD.flatP]; done)) ?_ | refine CallAtG.mk _ (fun _ => g38 ..) ?_ | refine CallDS.mk _ (by simp [RV.data]) (fun _ => g38 ..) (by first | (intro h; cases h; done) | (intro _; repeat' (first | exact List.forall_mem_nil _ | trivial | refine List.forall_mem_cons.2 ⟨?_, ?_⟩)) | (intro _; simp [RV.flatP, CD.flatP]; done)) ?_ | refine CallAt.mk _ (g81a ..) (by first | (intro h; cases h; done) | (intro _; repeat' (first | exact List.forall_mem_nil _ | trivial | refine List.forall_mem_cons.2 ⟨?_, ?_⟩)) | (intro _; simp [RV.flatP, CD.flatP]; done)) ?_ | refine CallAtG.mk _ (fun _ => g81a ..) ?_ | refine CallDS.mk _ (by simp [RV.data]) (fun _ => g81a ..) (by first | (intro h; cases h; done) | (intro _; repeat' (first | exact List.forall_mem_nil _ | trivial | refine List.forall_mem_cons.2 ⟨?_, ?_⟩)) | (intro _; simp [RV.flatP, CD.flatP]; done)) ?_ | refine CallAt.mk _ (g81b ..) (by first | (intro h; cases h; done) | (intro _; repeat' (first | exact List.forall_mem_nil _ | trivial | refine List.forall_mem_cons.2 ⟨?_, ?_⟩)) | (intro _; simp [RV.flatP, CD.flatP]; done)) ?_ | refine CallAtG.mk _ (fun _ => g81b ..) ?_ | refine CallDS.mk _ (by simp [RV.data]) (fun _ => g81b ..) (by first | (intro h; cases h; done) | (intro _; repeat' (first | exact List.forall_mem_nil _ | trivial | refine List.forall_mem_cons.2 ⟨?_, ?_⟩)) | (intro _; simp [RV.flatP, CD.flatP]; done)) ?_); try simp (disch := omega) only [go_sem, seval, reduceCtorEq, ↓reduceIte, beq_dec, Int.toNat_natCast, IntKind.signed, IntKind.bits]) | refine And.intro (fun hc => (?_ : AW _ _ _ _)) (fun hc => (?_ : AW _ _ _ _)) | simp (disch := omega) only [go_sem, seval, reduceCtorEq, ↓reduceIte, beq_dec, Int.toNat_natCast, IntKind.signed, IntKind.bits] | (refine And.intro ?_ ?_; focus (first | (intros; omega) | (intros; simp_all; done))) | refine And.intro (?_ : CallAt _ _ _ _ _ _ _ _) ?_ | refine And.intro (?_ : CallAt _ _ _ _ _ _ _ _ ∧ _) ?_ | refine And.intro (?_ : AW _ _ _ _) ?_ | fail))
      refine AW_nil 10 900 25 1 (by rfl) ?_
      refine AW_loopK [1, 3, 32, 33] [10, 12, 13, 15, 16, 34, 35, 36, 37, 38, 39, 40, 41, 42, 43, 44, 45, 46, 47, 48, 49, 50, 51, 52, 53, 54, 55, 56, 57, 58, 59, 60, 61] (fun i : Nat => i ≤ rows.length) (fun i => [(34, .I i), (10, .own 900)]) (fun i => [(900, .arr 25 1 ((cutM t rows cols i).map fun r => [Row r]))]) (fun i => rows.length - i) 0 (by omega) ?_ ?_
      · simp (disch := omega) only [go_sem, seval, reduceCtorEq, ↓reduceIte, beq_dec, Int.toNat_natCast, IntKind.signed, IntKind.bits, Int.natCast_zero]
        simp [cutM]
      · rintro i hi'
        have hri := hrr i
        have hml := cutM_len t rows cols i
        have h4i := h4 (nth rows i).toNat
        (repeat' (first | refine NextAt.mk (fun hc => ?_) (fun pre n v post hc hkey => ?_) | refine Sni.mk (fun hc => ?_) ?_ | refine Both.mk ?_ ?_ | refine AW_seq ?_ | refine AW_block ?_ | ((first | refine AW_reg ?_ | refine AW_cond ?_ | refine AW_skip ?_ | refine AW_exit ?_ | refine AW_ret ?_ | refine AW_regD (by kernel_rfl) ?_ | refine AW_regX (by kernel_rfl) ?_ | refine CallAtG.t (Eq.refl true) ?_ | refine CallAtG.f (Eq.refl false) ?_); try simp (disch := omega) only [go_sem, seval, reduceCtorEq, ↓reduceIte, beq_dec, Int.toNat_natCast, IntKind.signed, IntKind.bits, getD_map (fun r : List Int => [Row r]), getD_map (fun x : Int => [CD.I x])]) | refine And.intro (fun hc => (?_ : AW _ _ _ _)) (fun hc => (?_ : AW _ _ _ _)) | simp (disch := omega) only [go_sem, seval, reduceCtorEq, ↓reduceIte, beq_dec, Int.toNat_natCast, IntKind.signed, IntKind.bits, getD_map (fun r : List Int => [Row r]), getD_map (fun x : Int => [CD.I x])] | (refine And.intro ?_ ?_; focus (first | (intros; omega) | (intros; simp_all; done))) | refine And.intro (?_ : CallAt _ _ _ _ _ _ _ _) ?_ | refine And.intro (?_ : CallAt _ _ _ _ _ _ _ _ ∧ _) ?_ | refine And.intro (?_ : AW _ _ _ _) ?_ | fail))
        · refine AW_nil 13 901 3 1 (by rfl) ?_
          have hrow := h4i (by omega)
          have hrl' := asc_len hrow
          generalize hR : nth t (nth rows i).toNat = R at hrow hrl'
          refine AW_loopK [1, 3, 10, 32, 33, 34, 41, 42] [13, 15, 16, 43, 44, 45, 46, 47, 48, 49, 50, 51, 52, 53, 54, 55, 56] (fun k : Nat => k ≤ R.length) (fun k => [(43, .I k), (13, .own 901)]) (fun k => [(901, .arr 3 1 ((cutP R cols k).map fun x => [CD.I x]))]) (fun k => R.length - k) 0 (by omega) ?_ ?_
          · simp (disch := omega) only [go_sem, seval, reduceCtorEq, ↓reduceIte, beq_dec, Int.toNat_natCast, IntKind.signed, IntKind.bits, Int.natCast_zero]
            simp [cutP]
          · rintro k hk
            have hkl := cutP_len R cols k
            (repeat' (first | refine NextAt.mk (fun hc => ?_) (fun pre n v post hc hkey => ?_) | refine Sni.mk (fun hc => ?_) ?_ | refine Both.mk ?_ ?_ | refine AW_seq ?_ | refine AW_block ?_ | ((first | refine AW_reg ?_ | refine AW_cond ?_ | refine AW_skip ?_ | refine AW_exit ?_ | refine AW_ret ?_ | refine AW_regD (by kernel_rfl) ?_ | refine AW_regX (by kernel_rfl) ?_ | refine CallAtG.t (Eq.refl true) ?_ | refine CallAtG.f (Eq.refl false) ?_ | refine CallAt.mk _ (f82 ..) (by first | (intro h; cases h; done) | (intro _; repeat' (first | exact List.forall_mem_nil _ | trivial | refine List.forall_mem_cons.2 ⟨?_, ?_⟩)) | (intro _; simp [RV.flatP, CD.flatP, maxLen, getD_map (fun x : Int => [CD.I x])]; done)) ?_ | refine CallAtG.mk _ (fun _ => f82 ..) ?_ | refine CallDS.mk _ (by simp [RV.data]) (fun _ => f82 ..) (by first | (intro h; cases h; done) | (intro _; repeat' (first | exact List.forall_mem_nil _ | trivial | refine List.forall_mem_cons.2 ⟨?_, ?_⟩)) | (intro _; simp [RV.flatP, CD.flatP, maxLen, getD_map (fun x : Int => [CD.I x])]; done)) ?_); try simp (disch := omega) only [go_sem, seval, reduceCtorEq, ↓reduceIte, beq_dec, Int.toNat_natCast, IntKind.signed, IntKind.bits, maxLen, getD_map (fun x : Int => [CD.I x])]) | refine And.intro (fun hc => (?_ : AW _ _ _ _)) (fun hc => (?_ : AW _ _ _ _)) | simp (disch := omega) only [go_sem, seval, reduceCtorEq, ↓reduceIte, beq_dec, Int.toNat_natCast, IntKind.signed, IntKind.bits, maxLen, getD_map (fun x : Int => [CD.I x])] | (refine And.intro ?_ ?_; focus (first | (intros; omega) | (intros; simp_all; done))) | refine And.intro (?_ : CallAt _ _ _ _ _ _ _ _) ?_ | refine And.intro (?_ : CallAt _ _ _ _ _ _ _ _ ∧ _) ?_ | refine And.intro (?_ : AW _ _ _ _) ?_ | fail))
            · refine .mk (k + 1) (by omega) (by omega) ?_
              simp (disch := omega) only [go_sem, seval, reduceCtorEq, ↓reduceIte, beq_dec, Int.toNat_natCast, IntKind.signed, IntKind.bits, Int.natCast_add, Int.natCast_one, cutP_succ R cols k (by omega), if_pos (idx_nonneg.1 hc), List.map_append]
            · refine .mk (k + 1) (by omega) (by omega) ?_
              simp (disch := omega) only [go_sem, seval, reduceCtorEq, ↓reduceIte, beq_dec, Int.toNat_natCast, IntKind.signed, IntKind.bits, Int.natCast_add, Int.natCast_one, cutP_succ R cols k (by omega), if_neg (fun h => hc (idx_nonneg.2 h))]
            · refine .mk (i + 1) (by omega) (by omega) ?_
              have hk' : k = R.length := by omega
              subst hk'
              rw [cut_eq (asc_pw hrow) hcp]
              simp (disch := omega) only [go_sem, seval, reduceCtorEq, ↓reduceIte, beq_dec, Int.toNat_natCast, IntKind.signed, IntKind.bits, Int.natCast_add, Int.natCast_one, cutM_succ t rows cols i (by omega), hR, List.map_append]
        · rw [show i = rows.length by omega]; simp [cutM, cutT]
def obs (p : Int → List (List Int) → Bool) (n : Int) (t : List (List Int)) (rows cols : List Int) : Bool := decide (cutErr n t rows cols = 0) && !p cols.length (cutR n t rows cols)
theorem f30 (n : Int) (t : List (List Int)) (rows cols : List Int) : FnR Try.prog 18 [.I n, .c (Tab t), .c (Row rows), .c (Row cols)] [.c (.B (obs poss n t rows cols))] := by
  refine fn_walk code18 (by simp) ?_
  (repeat' (first | refine NextAt.mk (fun hc => ?_) (fun pre n v post hc hkey => ?_) | refine Sni.mk (fun hc => ?_) ?_ | refine Both.mk ?_ ?_ | refine AW_seq ?_ | refine AW_block ?_ | ((first | refine AW_reg ?_ | refine AW_cond ?_ | refine AW_skip ?_ | refine AW_exit ?_ | refine AW_ret ?_ | refine AW_regD (by kernel_rfl) ?_ | refine AW_regX (by kernel_rfl) ?_ | refine CallAtG.t (Eq.refl true) ?_ | refine CallAtG.f (Eq.refl false) ?_ | refine CallAt.mk _ (f27 ..) (by first | (intro h; cases h; done) | (intro _; repeat' (first | exact List.forall_mem_nil _ | trivial | refine List.forall_mem_cons.2 ⟨?_, ?_⟩)) | (intro _; simp [RV.flatP, CD.flatP]; done)) ?_ | refine CallAtG.mk _ (fun _ => f27 ..) ?_ | refine CallDS.mk _ (by simp [RV.data]) (fun _ => f27 ..) (by first | (intro h; cases h; done) | (intro _; repeat' (first | exact List.forall_mem_nil _ | trivial | refine List.forall_mem_cons.2 ⟨?_, ?_⟩)) | (intro _; simp [RV.flatP, CD.flatP]; done)) ?_ | refine CallAt.mk _ (f36 ..) (by first | (intro h; cases h; done) | (intro _; repeat' (first | exact List.forall_mem_nil _ | trivial | refine List.forall_mem_cons.2 ⟨?_, ?_⟩)) | (intro _; simp [RV.flatP, CD.flatP]; done)) ?_ | refine CallAtG.mk _ (fun _ => f36 ..) ?_ | refine CallDS.mk _ (by simp [RV.data]) (fun _ => f36 ..) (by first | (intro h; cases h; done) | (intro _; repeat' (first | exact List.forall_mem_nil _ | trivial | refine List.forall_mem_cons.2 ⟨?_, ?_⟩)) | (intro _; simp [RV.flatP, CD.flatP]; done)) ?_); try simp (disch := omega) only [go_sem, seval, reduceCtorEq, ↓reduceIte, beq_dec, Int.toNat_natCast, IntKind.signed, IntKind.bits]) | refine And.intro (fun hc => (?_ : AW _ _ _ _)) (fun hc => (?_ : AW _ _ _ _)) | simp (disch := omega) only [go_sem, seval, reduceCtorEq, ↓reduceIte, beq_dec, Int.toNat_natCast, IntKind.signed, IntKind.bits] | (refine And.intro ?_ ?_; focus (first | (intros; omega) | (intros; simp_all; done))) | refine And.intro (?_ : CallAt _ _ _ _ _ _ _ _) ?_ | refine And.intro (?_ : CallAt _ _ _ _ _ _ _ _ ∧ _) ?_ | refine And.intro (?_ : AW _ _ _ _) ?_ | fail))
  rfl
theorem wo_len {l : List Int} {i : Nat} (h : i < l.length) : (wo l i).length = l.length - 1 := by unfold wo; simp; omega
def minB (p : List Int → List Int → Bool) (rows cols : List Int) : Bool := p rows cols && decide (∀ i, i < rows.length → p (wo rows i) cols = false) && decide (∀ i, i < cols.length → p rows (wo cols i) = false)
theorem minB_no1 {p : List Int → List Int → Bool} {rows cols : List Int} {i : Nat} (hi : i < rows.length) (h : p (wo rows i) cols = true) : minB p rows cols = false := by
  unfold minB
  have : decide (∀ i, i < rows.length → p (wo rows i) cols = false) = false := decide_eq_false fun h' => by have := h' i hi; rw [h] at this; cases this
  rw [this]; simp
theorem minB_no2 {p : List Int → List Int → Bool} {rows cols : List Int} {i : Nat} (hi : i < cols.length) (h : p rows (wo cols i) = true) : minB p rows cols = false := by
  unfold minB
  have : decide (∀ i, i < cols.length → p rows (wo cols i) = false) = false := decide_eq_false fun h' => by have := h' i hi; rw [h] at this; cases this
  rw [this]; simp
theorem minB_no0 {p : List Int → List Int → Bool} {rows cols : List Int} (h : p rows cols = false) : minB p rows cols = false := by
  unfold minB; rw [h]; rfl
theorem f32 (n : Int) (t : List (List Int)) (rows cols : List Int) (hrl : rows.length ≤ 1000000) (hcl : cols.length ≤ 1000000) : FnR Try.prog 9 [.I n, .c (Tab t), .c (Row rows), .c (Row cols)] [.c (.B (minB (obs poss n t) rows cols))] := by
  refine fn_walk code9 (by simp) ?_
  (repeat' (first | refine NextAt.mk (fun hc => ?_) (fun pre n v post hc hkey => ?_) | refine Sni.mk (fun hc => ?_) ?_ | refine Both.mk ?_ ?_ | refine AW_seq ?_ | refine AW_block ?_ | ((first | refine AW_reg ?_ | refine AW_cond ?_ | refine AW_skip ?_ | refine AW_exit ?_ | refine AW_ret ?_ | refine AW_regD (by kernel_rfl) ?_ | refine AW_regX (by kernel_rfl) ?_ | refine CallAtG.t (Eq.refl true) ?_ | refine CallAtG.f (Eq.refl false) ?_ | refine CallAt.mk _ (f30 ..) (by first | (intro h; cases h; done) | (intro _; repeat' (first | exact List.forall_mem_nil _ | trivial | refine List.forall_mem_cons.2 ⟨?_, ?_⟩)) | (intro _; simp [RV.flatP, CD.flatP]; done)) ?_ | refine CallAtG.mk _ (fun _ => f30 ..) ?_ | refine CallDS.mk _ (by simp [RV.data]) (fun _ => f30 ..) (by first | (intro h; cases h; done) | (intro _; repeat' (first | exact List.forall_mem_nil _ | trivial | refine List.forall_mem_cons.2 ⟨?_, ?_⟩)) | (intro _; simp [RV.flatP, CD.flatP]; done)) ?_); try simp (disch := omega) only [go_sem, seval, reduceCtorEq, ↓reduceIte, beq_dec, Int.toNat_natCast, IntKind.signed, IntKind.bits]) | refine And.intro (fun hc => (?_ : AW _ _ _ _)) (fun hc => (?_ : AW _ _ _ _)) | simp (disch := omega) only [go_sem, seval, reduceCtorEq, ↓reduceIte, beq_dec, Int.toNat_natCast, IntKind.signed, IntKind.bits] | (refine And.intro ?_ ?_; focus (first | (intros; omega) | (intros; simp_all; done))) | refine And.intro (?_ : CallAt _ _ _ _ _ _ _ _) ?_ | refine And.intro (?_ : CallAt _ _ _ _ _ _ _ _ ∧ _) ?_ | refine And.intro (?_ : AW _ _ _ _) ?_ | fail))
  · rw [minB_no0 (by assumption)]
  refine AW_loopK [0, 1, 2, 3, 18] [8, 9, 19, 20, 21, 22, 23, 24, 25, 26, 27, 28, 29] (fun i : Nat => i ≤ rows.length ∧ ∀ j, j < i → obs poss n t (wo rows j) cols = false) (fun i => [(19, .I i)]) (fun _ => []) (fun i => rows.length - i) 0 ⟨by omega, by omega⟩ ?_ ?_
  · simp (disch := omega) only [go_sem, seval, reduceCtorEq, ↓reduceIte, beq_dec, Int.toNat_natCast, IntKind.signed, IntKind.bits, Int.natCast_zero]
  · rintro i ⟨hi, hb⟩
    have gwo := f85 rows i
    (repeat' (first | refine NextAt.mk (fun hc => ?_) (fun pre n v post hc hkey => ?_) | refine Sni.mk (fun hc => ?_) ?_ | refine Both.mk ?_ ?_ | refine AW_seq ?_ | refine AW_block ?_ | ((first | refine AW_reg ?_ | refine AW_cond ?_ | refine AW_skip ?_ | refine AW_exit ?_ | refine AW_ret ?_ | refine AW_regD (by kernel_rfl) ?_ | refine AW_regX (by kernel_rfl) ?_ | refine CallAtG.t (Eq.refl true) ?_ | refine CallAtG.f (Eq.refl false) ?_); try simp (disch := omega) only [go_sem, seval, reduceCtorEq, ↓reduceIte, beq_dec, Int.toNat_natCast, IntKind.signed, IntKind.bits]) | refine And.intro (fun hc => (?_ : AW _ _ _ _)) (fun hc => (?_ : AW _ _ _ _)) | simp (disch := omega) only [go_sem, seval, reduceCtorEq, ↓reduceIte, beq_dec, Int.toNat_natCast, IntKind.signed, IntKind.bits] | (refine And.intro ?_ ?_; focus (first | (intros; omega) | (intros; simp_all; done))) | refine And.intro (?_ : CallAt _ _ _ _ _ _ _ _) ?_ | refine And.intro (?_ : CallAt _ _ _ _ _ _ _ _ ∧ _) ?_ | refine And.intro (?_ : AW _ _ _ _) ?_ | fail))
    · have gwo := gwo (by omega) hrl
      (repeat' (first | refine NextAt.mk (fun hc => ?_) (fun pre n v post hc hkey => ?_) | refine Sni.mk (fun hc => ?_) ?_ | refine Both.mk ?_ ?_ | refine AW_seq ?_ | refine AW_block ?_ | ((first | refine AW_reg ?_ | refine AW_cond ?_ | refine AW_skip ?_ | refine AW_exit ?_ | refine AW_ret ?_ | refine AW_regD (by kernel_rfl) ?_ | refine AW_regX (by kernel_rfl) ?_ | refine CallAtG.t (Eq.refl true) ?_ | refine CallAtG.f (Eq.refl false) ?_ | refine CallAt.mk _ (gwo ..) (by first | (intro h; cases h; done) | (intro _; repeat' (first | exact List.forall_mem_nil _ | trivial | refine List.forall_mem_cons.2 ⟨?_, ?_⟩)) | (intro _; simp [RV.flatP, CD.flatP]; done)) ?_ | refine CallAtG.mk _ (fun _ => gwo ..) ?_ | refine CallDS.mk _ (by simp [RV.data]) (fun _ => gwo ..) (by first | (intro h; cases h; done) | (intro _; repeat' (first | exact List.forall_mem_nil _ | trivial | refine List.forall_mem_cons.2 ⟨?_, ?_⟩)) | (intro _; simp [RV.flatP, CD.flatP]; done)) ?_ | refine CallAt.mk _ (f30 ..) (by first | (intro h; cases h; done) | (intro _; repeat' (first | exact List.forall_mem_nil _ | trivial | refine List.forall_mem_cons.2 ⟨?_, ?_⟩)) | (intro _; simp [RV.flatP, CD.flatP]; done)) ?_ | refine CallAtG.mk _ (fun _ => f30 ..) ?_ | refine CallDS.mk _ (by simp [RV.data]) (fun _ => f30 ..) (by first | (intro h; cases h; done) | (intro _; repeat' (first | exact List.forall_mem_nil _ | trivial | refine List.forall_mem_cons.2 ⟨?_, ?_⟩)) | (intro _; simp [RV.flatP, CD.flatP]; done)) ?_); try simp (disch := omega) only [go_sem, seval, reduceCtorEq, ↓reduceIte, beq_dec, Int.toNat_natCast, IntKind.signed, IntKind.bits]) | refine And.intro (fun hc => (?_ : AW _ _ _ _)) (fun hc => (?_ : AW _ _ _ _)) | simp (disch := omega) only [go_sem, seval, reduceCtorEq, ↓reduceIte, beq_dec, Int.toNat_natCast, IntKind.signed, IntKind.bits] | (refine And.intro ?_ ?_; focus (first | (intros; omega) | (intros; simp_all; done))) | refine And.intro (?_ : CallAt _ _ _ _ _ _ _ _) ?_ | refine And.intro (?_ : CallAt _ _ _ _ _ _ _ _ ∧ _) ?_ | refine And.intro (?_ : AW _ _ _ _) ?_ | fail))
      · rw [minB_no1 (i := i) (by omega) (by assumption)]
      · refine .mk (i + 1) ⟨by omega, step_lt hb (by assumption)⟩ (by omega) ?_
        simp (disch := omega) only [go_sem, seval, reduceCtorEq, ↓reduceIte, beq_dec, Int.toNat_natCast, IntKind.signed, IntKind.bits, Int.natCast_add, Int.natCast_one]
    · refine AW_loopK [0, 1, 2, 3, 31] [8, 10, 32, 33, 34, 35, 36, 37, 38, 39, 40, 41, 42] (fun i : Nat => i ≤ cols.length ∧ ∀ j, j < i → obs poss n t rows (wo cols j) = false) (fun i => [(32, .I i)]) (fun _ => []) (fun i => cols.length - i) 0 ⟨by omega, by omega⟩ ?_ ?_
      · simp (disch := omega) only [go_sem, seval, reduceCtorEq, ↓reduceIte, beq_dec, Int.toNat_natCast, IntKind.signed, IntKind.bits, Int.natCast_zero]
      · rintro k ⟨hk, hb2⟩
        have gwo := f85 cols k
        (repeat' (first | refine NextAt.mk (fun hc => ?_) (fun pre n v post hc hkey => ?_) | refine Sni.mk (fun hc => ?_) ?_ | refine Both.mk ?_ ?_ | refine AW_seq ?_ | refine AW_block ?_ | ((first | refine AW_reg ?_ | refine AW_cond ?_ | refine AW_skip ?_ | refine AW_exit ?_ | refine AW_ret ?_ | refine AW_regD (by kernel_rfl) ?_ | refine AW_regX (by kernel_rfl) ?_ | refine CallAtG.t (Eq.refl true) ?_ | refine CallAtG.f (Eq.refl false) ?_); try simp (disch := omega) only [go_sem, seval, reduceCtorEq, ↓reduceIte, beq_dec, Int.toNat_natCast, IntKind.signed, IntKind.bits]) | refine And.intro (fun hc => (?_ : AW _ _ _ _)) (fun hc => (?_ : AW _ _ _ _)) | simp (disch := omega) only [go_sem, seval, reduceCtorEq, ↓reduceIte, beq_dec, Int.toNat_natCast, IntKind.signed, IntKind.bits] | (refine And.intro ?_ ?_; focus (first | (intros; omega) | (intros; simp_all; done))) | refine And.intro (?_ : CallAt _ _ _ _ _ _ _ _) ?_ | refine And.intro (?_ : CallAt _ _ _ _ _ _ _ _ ∧ _) ?_ | refine And.intro (?_ : AW _ _ _ _) ?_ | fail))
        · have gwo := gwo (by omega) hcl
          (repeat' (first | refine NextAt.mk (fun hc => ?_) (fun pre n v post hc hkey => ?_) | refine Sni.mk (fun hc => ?_) ?_ | refine Both.mk ?_ ?_ | refine AW_seq ?_ | refine AW_block ?_ | ((first | refine AW_reg ?_ | refine AW_cond ?_ | refine AW_skip ?_ | refine AW_exit ?_ | refine AW_ret ?_ | refine AW_regD (by kernel_rfl) ?_ | refine AW_regX (by kernel_rfl) ?_ | refine CallAtG.t (Eq.refl true) ?_ | refine CallAtG.f (Eq.refl false) ?_ | refine CallAt.mk _ (gwo ..) (by first | (intro h; cases h; done) | (intro _; repeat' (first | exact List.forall_mem_nil _ | trivial | refine List.forall_mem_cons.2 ⟨?_, ?_⟩)) | (intro _; simp [RV.flatP, CD.flatP]; done)) ?_ | refine CallAtG.mk _ (fun _ => gwo ..) ?_ | refine CallDS.mk _ (by simp [RV.data]) (fun _ => gwo ..) (by first | (intro h; cases h; done) | (intro _; repeat' (first | exact List.forall_mem_nil _ | trivial | refine List.forall_mem_cons.2 ⟨?_, ?_⟩)) | (intro _; simp [RV.flatP, CD.flatP]; done)) ?_ | refine CallAt.mk _ (f30 ..) (by first | (intro h; cases h; done) | (intro _; repeat' (first | exact List.forall_mem_nil _ | trivial | refine List.forall_mem_cons.2 ⟨?_, ?_⟩)) | (intro _; simp [RV.flatP, CD.flatP]; done)) ?_ | refine CallAtG.mk _ (fun _ => f30 ..) ?_ | refine CallDS.mk _ (by simp [RV.data]) (fun _ => f30 ..) (by first | (intro h; cases h; done) | (intro _; repeat' (first | exact List.forall_mem_nil _ | trivial | refine List.forall_mem_cons.2 ⟨?_, ?_⟩)) | (intro _; simp [RV.flatP, CD.flatP]; done)) ?_); try simp (disch := omega) only [go_sem, seval, reduceCtorEq, ↓reduceIte, beq_dec, Int.toNat_natCast, IntKind.signed, IntKind.bits]) | refine And.intro (fun hc => (?_ : AW _ _ _ _)) (fun hc => (?_ : AW _ _ _ _)) | simp (disch := omega) only [go_sem, seval, reduceCtorEq, ↓reduceIte, beq_dec, Int.toNat_natCast, IntKind.signed, IntKind.bits] | (refine And.intro ?_ ?_; focus (first | (intros; omega) | (intros; simp_all; done))) | refine And.intro (?_ : CallAt _ _ _ _ _ _ _ _) ?_ | refine And.intro (?_ : CallAt _ _ _ _ _ _ _ _ ∧ _) ?_ | refine And.intro (?_ : AW _ _ _ _) ?_ | fail))
          · rw [minB_no2 (i := k) (by omega) (by assumption)]
          · refine .mk (k + 1) ⟨by omega, step_lt hb2 (by assumption)⟩ (by omega) ?_
            simp (disch := omega) only [go_sem, seval, reduceCtorEq, ↓reduceIte, beq_dec, Int.toNat_natCast, IntKind.signed, IntKind.bits, Int.natCast_add, Int.natCast_one]
        · symm
          unfold minB
          simp only [Bool.and_eq_true, decide_eq_true_eq]
          exact ⟨⟨by assumption, fun j hj => hb j (by omega)⟩, fun j hj => hb2 j (by omega)⟩
end Go.Proofs.Ytcimlelkeppoiaa

open Go Go.AL Go.RowKit
namespace Go.Proofs.Ytcimlelkeppoiaa
set_option maxRecDepth 20000
def runsN (row order : List Int) : Nat → Nat
  | 0 => 0
  | k + 1 => runsN row order k + if nth order k ∈ row ∧ (k = 0 ∨ nth order (k - 1) ∉ row) then 1 else 0
def isOrd (o : List Int) (n : Int) : Bool := decide ((o.length : Int) = n ∧ ∀ i, i < o.length → 0 ≤ nth o i ∧ nth o i < n ∧ ∀ k, k < i → nth o i ≠ nth o k)
def runErr (n : Int) (t : List (List Int)) (o : List Int) : Int := if validT n t = false then 1 else if isOrd o n = false then 2 else 0
def runsL (n : Int) (t : List (List Int)) (o : List Int) : List Int := if runErr n t o = 0 then t.map fun r => ((runsN r o o.length : Nat) : Int) else []
def gapN (l : List Int) : Nat → Int
  | 0 => 0
  | k + 1 => gapN l k + max (nth l k - 1) 0
def gapsV (n : Int) (t : List (List Int)) (o : List Int) : Int := gapN (runsL n t o) (runsL n t o).length
def gapless (n : Int) (t : List (List Int)) (o : List Int) : Bool := decide (runErr n t o = 0) && decide (gapsV n t o = 0)
def extN (n : Nat) (o : List Int) : List (List Int) := ((List.range n).filter fun (v : Nat) => decide ((v : Int) ∉ o)).map fun (v : Nat) => o ++ [(v : Int)]
def lev (n : Nat) : Nat → List (List Int)
  | 0 => [[]]
  | k + 1 => (lev n k).flatMap (extN n)
def allR (n : Int) (t : List (List Int)) : List (List Int) := (lev n.toNat n.toNat).filter fun o => gapless n t o
def possR (n : Int) (t : List (List Int)) : Bool := validT n t && !(allR n t).isEmpty
end Go.Proofs.Ytcimlelkeppoiaa

