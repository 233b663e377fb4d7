/-
  Lemmas for the proof: no statement of its own.
-/
import Derived.Test.YtddhinbiahcjlaaCodeA
import Derived.Test.YtddhinbiahcjlaaAlD
set_option linter.unusedVariables false
set_option linter.unusedSimpArgs false
-- P p_27s.txt
open Go Go.AL Go.RowKit
namespace Go.Proofs.Ytddhinbiahcjlaa
set_option maxRecDepth 20000

abbrev Row (l : List Int) : CD := .sl 1 (l.map fun x => [CD.I x])
abbrev Tab (t : List (List Int)) : CD := .sl 1 (t.map fun r => [Row r])
abbrev ORow (l : List Int) : RV := .own 3 1 (l.map fun x => [CD.I x])
/-- the first place of a number -/
def idx (l : List Int) (x : Int) : Int := if x ∈ l then (l.idxOf x : Int) else -1
theorem idx_found {l : List Int} {x : Int} {i : Nat} (hi : i < l.length) (h : nth l i = x) (hb : ∀ j, j < i → nth l j ≠ x) : idx l x = i := by
  have hm : x ∈ l := h ▸ nth_mem l i hi
  unfold idx
  rw [if_pos hm]
  have h1 : l.idxOf x < l.length := List.idxOf_lt_length_iff.2 hm
  have h2 : l[l.idxOf x] = x := List.getElem_idxOf h1
  have h3 : ¬ l.idxOf x < i := fun hl => hb _ hl (by rw [nth_eq l _ h1]; exact h2)
  have h4 : ¬ i < l.idxOf x := fun hl => by
    have := List.not_of_lt_findIdx (p := (· == x)) (xs := l) hl
    rw [nth_eq l i hi] at h
    simp [h] at this
  omega
theorem not_mem_nth {l : List Int} {x : Int} (h : ∀ j, j < l.length → nth l j ≠ x) : x ∉ l := by
  intro hm
  obtain ⟨j, hj, e⟩ := List.getElem_of_mem hm
  exact h j hj (by rw [nth_eq l j hj]; exact e)
theorem step_lt {p : Nat → Prop} {i : Nat} (h : ∀ j, j < i → p j) (hi : p i) : ∀ j, j < i + 1 → p j := fun j hj => by
  rcases Nat.lt_succ_iff_lt_or_eq.1 hj with h' | rfl
  · exact h j h'
  · exact hi
theorem f82 (l : List Int) (x : Int) : FnR Try.prog 32 [.c (Row l), .I x] [.c (.I (idx l x))] := by
  refine FnR_len (pre := []) (post := [.I x]) (fnCode_callB code32) fun hl => ?_
  simp only [List.length_map, maxLen] at hl
  refine fn_walk code32 (by simp) ?_
  (repeat' (first | refine NextAt.mk (fun hc => ?_) (fun pre n v post hc hkey => ?_) | refine Sni.mk (fun hc => ?_) ?_ | refine Both.mk ?_ ?_ | refine AW_seq ?_ | refine AW_block ?_ | ((first | refine AW_reg ?_ | refine AW_cond ?_ | refine AW_skip ?_ | refine AW_exit ?_ | refine AW_ret ?_ | refine AW_regD (by kernel_rfl) ?_ | refine AW_regX (by kernel_rfl) ?_ | refine CallAtG.t (Eq.refl true) ?_ | refine CallAtG.f (Eq.refl false) ?_); try simp (disch := omega) only [go_sem, seval, reduceCtorEq, ↓reduceIte, beq_dec, Int.toNat_natCast, IntKind.signed, IntKind.bits]) | refine And.intro (fun hc => (?_ : AW _ _ _ _)) (fun hc => (?_ : AW _ _ _ _)) | simp (disch := omega) only [go_sem, seval, reduceCtorEq, ↓reduceIte, beq_dec, Int.toNat_natCast, IntKind.signed, IntKind.bits] | (refine And.intro ?_ ?_; focus (first | (intros; omega) | (intros; simp_all; done))) | refine And.intro (?_ : CallAt _ _ _ _ _ _ _ _) ?_ | refine And.intro (?_ : CallAt _ _ _ _ _ _ _ _ ∧ _) ?_ | refine And.intro (?_ : AW _ _ _ _) ?_ | fail))
  refine AW_loopK [0, 1, 7] [4, 5, 8, 9, 10, 11, 12, 13, 14, 15, 16, 17, 18] (fun i : Nat => i ≤ l.length ∧ ∀ j, j < i → nth l j ≠ x) (fun i => [(8, .I i)]) (fun _ => []) (fun i => l.length - i) 0 ⟨by omega, by omega⟩ ?_ ?_
  · simp (disch := omega) only [go_sem, seval, reduceCtorEq, ↓reduceIte, beq_dec, Int.toNat_natCast, IntKind.signed, IntKind.bits, Int.natCast_zero]
  · rintro i ⟨hi, hb⟩
    (repeat' (first | refine NextAt.mk (fun hc => ?_) (fun pre n v post hc hkey => ?_) | refine Sni.mk (fun hc => ?_) ?_ | refine Both.mk ?_ ?_ | refine AW_seq ?_ | refine AW_block ?_ | ((first | refine AW_reg ?_ | refine AW_cond ?_ | refine AW_skip ?_ | refine AW_exit ?_ | refine AW_ret ?_ | refine AW_regD (by kernel_rfl) ?_ | refine AW_regX (by kernel_rfl) ?_ | refine CallAtG.t (Eq.refl true) ?_ | refine CallAtG.f (Eq.refl false) ?_); try simp (disch := omega) only [go_sem, seval, reduceCtorEq, ↓reduceIte, beq_dec, Int.toNat_natCast, IntKind.signed, IntKind.bits, getD_map (fun x : Int => [CD.I x])]) | refine And.intro (fun hc => (?_ : AW _ _ _ _)) (fun hc => (?_ : AW _ _ _ _)) | simp (disch := omega) only [go_sem, seval, reduceCtorEq, ↓reduceIte, beq_dec, Int.toNat_natCast, IntKind.signed, IntKind.bits, getD_map (fun x : Int => [CD.I x])] | (refine And.intro ?_ ?_; focus (first | (intros; omega) | (intros; simp_all; done))) | refine And.intro (?_ : CallAt _ _ _ _ _ _ _ _) ?_ | refine And.intro (?_ : CallAt _ _ _ _ _ _ _ _ ∧ _) ?_ | refine And.intro (?_ : AW _ _ _ _) ?_ | fail))
    · rw [idx_found (by omega) (by omega) hb]
    · refine .mk (i + 1) ⟨by omega, step_lt hb (by omega)⟩ (by omega) ?_
      simp (disch := omega) only [go_sem, seval, reduceCtorEq, ↓reduceIte, beq_dec, Int.toNat_natCast, IntKind.signed, IntKind.bits, Int.natCast_add, Int.natCast_one]
    · unfold idx
      rw [if_neg (not_mem_nth fun j hj => hb j (by omega))]
theorem f116 (l : List Int) (x : Int) : FnR Try.prog 18 [.c (Row l), .I x] [.c (.B (decide (x ∈ l)))] := by
  refine fn_walk code18 (by simp) ?_
  (repeat' (first | refine NextAt.mk (fun hc => ?_) (fun pre n v post hc hkey => ?_) | refine Sni.mk (fun hc => ?_) ?_ | refine Both.mk ?_ ?_ | refine AW_seq ?_ | refine AW_block ?_ | ((first | refine AW_reg ?_ | refine AW_cond ?_ | refine AW_skip ?_ | refine AW_exit ?_ | refine AW_ret ?_ | refine AW_regD (by kernel_rfl) ?_ | refine AW_regX (by kernel_rfl) ?_ | refine CallAtG.t (Eq.refl true) ?_ | refine CallAtG.f (Eq.refl false) ?_ | refine CallAt.mk _ (f82 ..) (by first | (intro h; cases h; done) | (intro _; repeat' (first | exact List.forall_mem_nil _ | trivial | refine List.forall_mem_cons.2 ⟨?_, ?_⟩)) | (intro _; simp [RV.flatP, CD.flatP]; done)) ?_ | refine CallAtG.mk _ (fun _ => f82 ..) ?_ | refine CallDS.mk _ (by simp [RV.data]) (fun _ => f82 ..) (by first | (intro h; cases h; done) | (intro _; repeat' (first | exact List.forall_mem_nil _ | trivial | refine List.forall_mem_cons.2 ⟨?_, ?_⟩)) | (intro _; simp [RV.flatP, CD.flatP]; done)) ?_); try simp (disch := omega) only [go_sem, seval, reduceCtorEq, ↓reduceIte, beq_dec, Int.toNat_natCast, IntKind.signed, IntKind.bits]) | refine And.intro (fun hc => (?_ : AW _ _ _ _)) (fun hc => (?_ : AW _ _ _ _)) | simp (disch := omega) only [go_sem, seval, reduceCtorEq, ↓reduceIte, beq_dec, Int.toNat_natCast, IntKind.signed, IntKind.bits] | (refine And.intro ?_ ?_; focus (first | (intros; omega) | (intros; simp_all; done))) | refine And.intro (?_ : CallAt _ _ _ _ _ _ _ _) ?_ | refine And.intro (?_ : CallAt _ _ _ _ _ _ _ _ ∧ _) ?_ | refine And.intro (?_ : AW _ _ _ _) ?_ | fail))
  unfold idx
  split <;> simp_all
theorem f96 (l : List Int) (hl : l.length ≤ 1000000) : FnR Try.prog 53 [.c (Row l)] [ORow l] := by
  refine fn_walk code53 (by simp) ?_
  (repeat' (first | refine NextAt.mk (fun hc => ?_) (fun pre n v post hc hkey => ?_) | refine Sni.mk (fun hc => ?_) ?_ | refine Both.mk ?_ ?_ | refine AW_seq ?_ | refine AW_block ?_ | ((first | refine AW_reg ?_ | refine AW_cond ?_ | refine AW_skip ?_ | refine AW_exit ?_ | refine AW_ret ?_ | refine AW_regD (by kernel_rfl) ?_ | refine AW_regX (by kernel_rfl) ?_ | refine CallAtG.t (Eq.refl true) ?_ | refine CallAtG.f (Eq.refl false) ?_); try simp (disch := omega) only [go_sem, seval, reduceCtorEq, ↓reduceIte, beq_dec, Int.toNat_natCast, IntKind.signed, IntKind.bits, maxLen]) | refine And.intro (fun hc => (?_ : AW _ _ _ _)) (fun hc => (?_ : AW _ _ _ _)) | simp (disch := omega) only [go_sem, seval, reduceCtorEq, ↓reduceIte, beq_dec, Int.toNat_natCast, IntKind.signed, IntKind.bits, maxLen] | (refine And.intro ?_ ?_; focus (first | (intros; omega) | (intros; simp_all; done))) | refine And.intro (?_ : CallAt _ _ _ _ _ _ _ _) ?_ | refine And.intro (?_ : CallAt _ _ _ _ _ _ _ _ ∧ _) ?_ | refine And.intro (?_ : AW _ _ _ _) ?_ | fail))
  assumption
def Asc (l : List Int) (lo hi : Int) (i : Nat) : Prop := lo ≤ nth l i ∧ nth l i ≤ hi ∧ (0 < i → nth l (i - 1) < nth l i)
instance (l : List Int) (lo hi : Int) (i : Nat) : Decidable (Asc l lo hi i) := by unfold Asc; infer_instance
def asc (l : List Int) (lo hi : Int) : Bool := decide (∀ i, i < l.length → Asc l lo hi i)
theorem toNat_pred (i : Nat) : ((i : Int) - 1).toNat = i - 1 := by omega
theorem asc_no {l : List Int} {lo hi : Int} {i : Nat} (h : i < l.length) (hn : ¬ Asc l lo hi i) : asc l lo hi = false := by
  unfold asc
  rw [decide_eq_false_iff_not]
  exact fun h' => hn (h' i h)
def validT (n : Int) (t : List (List Int)) : Bool := decide (0 ≤ n ∧ n ≤ 7 ∧ t.length ≤ 16 ∧ ∀ i, i < t.length → asc (nth t i) 0 (n - 1) = true)
theorem validT_no {n : Int} {t : List (List Int)} {i : Nat} (h : i < t.length) (hn : asc (nth t i) 0 (n - 1) = false) : validT n t = false := by
  unfold validT
  rw [decide_eq_false_iff_not]
  exact fun h' => by have := h'.2.2.2 i h; rw [hn] at this; cases this
theorem tab_lens {t : List (List Int)} (h : ∀ x ∈ t.map (fun r => [Row r]), ∀ (k : Nat) (ys : List (List CD)), CD.sl k ys ∈ x → ys.length ≤ maxLen) (i : Nat) (hi : i < t.length) : (nth t i).length ≤ 9223372036854775807 := by
  have := h [Row (nth t i)] (List.mem_map.2 ⟨_, nth_mem t i hi, rfl⟩) 1 ((nth t i).map fun x => [CD.I x]) (by simp)
  simpa [maxLen] using this
theorem f38 (n : Int) (t : List (List Int)) : FnR Try.prog 8 [.I n, .c (Tab t)] [.c (.B (validT n t))] := by
  refine FnR_lens (pre := [.I n]) (post := []) (fnCode_callB code8) fun _ hls => ?_
  have hls := tab_lens hls
  refine fn_walk code8 (by simp) ?_
  (repeat' (first | refine NextAt.mk (fun hc => ?_) (fun pre n v post hc hkey => ?_) | refine Sni.mk (fun hc => ?_) ?_ | refine Both.mk ?_ ?_ | refine AW_seq ?_ | refine AW_block ?_ | ((first | refine AW_reg ?_ | refine AW_cond ?_ | refine AW_skip ?_ | refine AW_exit ?_ | refine AW_ret ?_ | refine AW_regD (by kernel_rfl) ?_ | refine AW_regX (by kernel_rfl) ?_ | refine CallAtG.t (Eq.refl true) ?_ | refine CallAtG.f (Eq.refl false) ?_); try simp (disch := omega) only [go_sem, seval, reduceCtorEq, ↓reduceIte, beq_dec, Int.toNat_natCast, IntKind.signed, IntKind.bits]) | refine And.intro (fun hc => (?_ : AW _ _ _ _)) (fun hc => (?_ : AW _ _ _ _)) | simp (disch := omega) only [go_sem, seval, reduceCtorEq, ↓reduceIte, beq_dec, Int.toNat_natCast, IntKind.signed, IntKind.bits] | (refine And.intro ?_ ?_; focus (first | (intros; omega) | (intros; simp_all; done))) | refine And.intro (?_ : CallAt _ _ _ _ _ _ _ _) ?_ | refine And.intro (?_ : CallAt _ _ _ _ _ _ _ _ ∧ _) ?_ | refine And.intro (?_ : AW _ _ _ _) ?_ | fail))
  · unfold validT
    symm; rw [decide_eq_false_iff_not]; omega
  refine AW_loopK [0, 20, 21] [4, 6, 7, 8, 22, 23, 24, 25, 26, 27, 28, 29, 30, 31, 32, 33, 34, 35, 36, 37, 38, 39, 40, 41, 42, 43, 44, 45, 46, 47, 48, 49, 50, 51, 52, 53, 54] (fun i : Nat => i ≤ t.length ∧ ∀ j, j < i → asc (nth t j) 0 (n - 1) = true) (fun i => [(22, .I i)]) (fun _ => []) (fun i => t.length - i) 0 ⟨by omega, by omega⟩ ?_ ?_
  · simp (disch := omega) only [go_sem, seval, reduceCtorEq, ↓reduceIte, beq_dec, Int.toNat_natCast, IntKind.signed, IntKind.bits, Int.natCast_zero]
  · rintro i ⟨hi', hb⟩
    (repeat' (first | refine NextAt.mk (fun hc => ?_) (fun pre n v post hc hkey => ?_) | refine Sni.mk (fun hc => ?_) ?_ | refine Both.mk ?_ ?_ | refine AW_seq ?_ | refine AW_block ?_ | ((first | refine AW_reg ?_ | refine AW_cond ?_ | refine AW_skip ?_ | refine AW_exit ?_ | refine AW_ret ?_ | refine AW_regD (by kernel_rfl) ?_ | refine AW_regX (by kernel_rfl) ?_ | refine CallAtG.t (Eq.refl true) ?_ | refine CallAtG.f (Eq.refl false) ?_); try simp (disch := omega) only [go_sem, seval, reduceCtorEq, ↓reduceIte, beq_dec, Int.toNat_natCast, IntKind.signed, IntKind.bits, getD_map (fun r : List Int => [Row r])]) | refine And.intro (fun hc => (?_ : AW _ _ _ _)) (fun hc => (?_ : AW _ _ _ _)) | simp (disch := omega) only [go_sem, seval, reduceCtorEq, ↓reduceIte, beq_dec, Int.toNat_natCast, IntKind.signed, IntKind.bits, getD_map (fun r : List Int => [Row r])] | (refine And.intro ?_ ?_; focus (first | (intros; omega) | (intros; simp_all; done))) | refine And.intro (?_ : CallAt _ _ _ _ _ _ _ _) ?_ | refine And.intro (?_ : CallAt _ _ _ _ _ _ _ _ ∧ _) ?_ | refine And.intro (?_ : AW _ _ _ _) ?_ | fail))
    · have hl : (nth t i).length ≤ 9223372036854775807 := hls i (by omega)
      refine AW_loopK [0, 6, 20, 21, 22, 26, 27] [4, 7, 8, 28, 29, 30, 31, 32, 33, 34, 35, 36, 37, 38, 39, 40, 41, 42, 43, 44, 45, 46, 47, 48, 49, 50, 51, 52, 53] (fun k : Nat => k ≤ (nth t i).length ∧ ∀ j, j < k → Asc (nth t i) 0 (n - 1) j) (fun k => [(28, .I k)]) (fun _ => []) (fun k => (nth t i).length - k) 0 ⟨by omega, by omega⟩ ?_ ?_
      · simp (disch := omega) only [go_sem, seval, reduceCtorEq, ↓reduceIte, beq_dec, Int.toNat_natCast, IntKind.signed, IntKind.bits, Int.natCast_zero]
      · rintro k ⟨hk, hcc⟩
        (repeat' (first | refine NextAt.mk (fun hc => ?_) (fun pre n v post hc hkey => ?_) | refine Sni.mk (fun hc => ?_) ?_ | refine Both.mk ?_ ?_ | refine AW_seq ?_ | refine AW_block ?_ | ((first | refine AW_reg ?_ | refine AW_cond ?_ | refine AW_skip ?_ | refine AW_exit ?_ | refine AW_ret ?_ | refine AW_regD (by kernel_rfl) ?_ | refine AW_regX (by kernel_rfl) ?_ | refine CallAtG.t (Eq.refl true) ?_ | refine CallAtG.f (Eq.refl false) ?_); try simp (disch := omega) only [go_sem, seval, reduceCtorEq, ↓reduceIte, beq_dec, Int.toNat_natCast, IntKind.signed, IntKind.bits, getD_map (fun x : Int => [CD.I x]), toNat_pred]) | refine And.intro (fun hc => (?_ : AW _ _ _ _)) (fun hc => (?_ : AW _ _ _ _)) | simp (disch := omega) only [go_sem, seval, reduceCtorEq, ↓reduceIte, beq_dec, Int.toNat_natCast, IntKind.signed, IntKind.bits, getD_map (fun x : Int => [CD.I x]), toNat_pred] | (refine And.intro ?_ ?_; focus (first | (intros; omega) | (intros; simp_all; done))) | refine And.intro (?_ : CallAt _ _ _ _ _ _ _ _) ?_ | refine And.intro (?_ : CallAt _ _ _ _ _ _ _ _ ∧ _) ?_ | refine And.intro (?_ : AW _ _ _ _) ?_ | fail))
        · rw [validT_no (i := i) (by omega) (asc_no (i := k) (by omega) (by unfold Asc; omega))]
        · refine .mk (k + 1) ⟨by omega, step_lt hcc (by unfold Asc; omega)⟩ (by omega) ?_
          simp (disch := omega) only [go_sem, seval, reduceCtorEq, ↓reduceIte, beq_dec, Int.toNat_natCast, IntKind.signed, IntKind.bits, Int.natCast_add, Int.natCast_one]
        · refine .mk (i + 1) ⟨by omega, step_lt hb (decide_eq_true fun j hj => hcc j (by omega))⟩ (by omega) ?_
          simp (disch := omega) only [go_sem, seval, reduceCtorEq, ↓reduceIte, beq_dec, Int.toNat_natCast, IntKind.signed, IntKind.bits, Int.natCast_add, Int.natCast_one]
    · symm; exact decide_eq_true ⟨by omega, by omega, by omega, fun j hj => hb j (by omega)⟩
theorem nth_ext {a b : List Int} (h : a.length = b.length) (h' : ∀ j, j < a.length → nth a j = nth b j) : a = b := by
  refine List.ext_getElem h fun i h1 h2 => ?_
  have := h' i h1
  rwa [nth_eq a i h1, nth_eq b i h2] at this
theorem f43 (a b : List Int) : FnR Try.prog 12 [.c (Row a), .c (Row b)] [.c (.B (decide (a = b)))] := by
  refine FnR_len (pre := []) (post := [.c (Row b)]) (fnCode_callB code12) fun hl => ?_
  simp only [List.length_map, maxLen] at hl
  refine fn_walk code12 (by simp) ?_
  (repeat' (first | refine NextAt.mk (fun hc => ?_) (fun pre n v post hc hkey => ?_) | refine Sni.mk (fun hc => ?_) ?_ | refine Both.mk ?_ ?_ | refine AW_seq ?_ | refine AW_block ?_ | ((first | refine AW_reg ?_ | refine AW_cond ?_ | refine AW_skip ?_ | refine AW_exit ?_ | refine AW_ret ?_ | refine AW_regD (by kernel_rfl) ?_ | refine AW_regX (by kernel_rfl) ?_ | refine CallAtG.t (Eq.refl true) ?_ | refine CallAtG.f (Eq.refl false) ?_); try simp (disch := omega) only [go_sem, seval, reduceCtorEq, ↓reduceIte, beq_dec, Int.toNat_natCast, IntKind.signed, IntKind.bits]) | refine And.intro (fun hc => (?_ : AW _ _ _ _)) (fun hc => (?_ : AW _ _ _ _)) | simp (disch := omega) only [go_sem, seval, reduceCtorEq, ↓reduceIte, beq_dec, Int.toNat_natCast, IntKind.signed, IntKind.bits] | (refine And.intro ?_ ?_; focus (first | (intros; omega) | (intros; simp_all; done))) | refine And.intro (?_ : CallAt _ _ _ _ _ _ _ _) ?_ | refine And.intro (?_ : CallAt _ _ _ _ _ _ _ _ ∧ _) ?_ | refine And.intro (?_ : AW _ _ _ _) ?_ | fail))
  · symm; rw [decide_eq_false_iff_not]; rintro rfl; omega
  refine AW_loopK [0, 1] [4, 5, 11, 12, 13, 14, 15, 16, 17, 18, 19, 20, 21, 22, 23, 24, 25] (fun i : Nat => i ≤ a.length ∧ ∀ j, j < i → nth a j = nth b j) (fun i => [(5, .I i)]) (fun _ => []) (fun i => a.length - i) 0 ⟨by omega, by omega⟩ ?_ ?_
  · simp (disch := omega) only [go_sem, seval, reduceCtorEq, ↓reduceIte, beq_dec, Int.toNat_natCast, IntKind.signed, IntKind.bits, Int.natCast_zero]
  · rintro i ⟨hi', hb⟩
    (repeat' (first | refine NextAt.mk (fun hc => ?_) (fun pre n v post hc hkey => ?_) | refine Sni.mk (fun hc => ?_) ?_ | refine Both.mk ?_ ?_ | refine AW_seq ?_ | refine AW_block ?_ | ((first | refine AW_reg ?_ | refine AW_cond ?_ | refine AW_skip ?_ | refine AW_exit ?_ | refine AW_ret ?_ | refine AW_regD (by kernel_rfl) ?_ | refine AW_regX (by kernel_rfl) ?_ | refine CallAtG.t (Eq.refl true) ?_ | refine CallAtG.f (Eq.refl false) ?_); try simp (disch := omega) only [go_sem, seval, reduceCtorEq, ↓reduceIte, beq_dec, Int.toNat_natCast, IntKind.signed, IntKind.bits, getD_map (fun x : Int => [CD.I x])]) | refine And.intro (fun hc => (?_ : AW _ _ _ _)) (fun hc => (?_ : AW _ _ _ _)) | simp (disch := omega) only [go_sem, seval, reduceCtorEq, ↓reduceIte, beq_dec, Int.toNat_natCast, IntKind.signed, IntKind.bits, getD_map (fun x : Int => [CD.I x])] | (refine And.intro ?_ ?_; focus (first | (intros; omega) | (intros; simp_all; done))) | refine And.intro (?_ : CallAt _ _ _ _ _ _ _ _) ?_ | refine And.intro (?_ : CallAt _ _ _ _ _ _ _ _ ∧ _) ?_ | refine And.intro (?_ : AW _ _ _ _) ?_ | fail))
    · symm; rw [decide_eq_false_iff_not]; rintro rfl; omega
    · refine .mk (i + 1) ⟨by omega, step_lt hb (by omega)⟩ (by omega) ?_
      simp (disch := omega) only [go_sem, seval, reduceCtorEq, ↓reduceIte, beq_dec, Int.toNat_natCast, IntKind.signed, IntKind.bits, Int.natCast_add, Int.natCast_one]
    · symm; exact decide_eq_true (nth_ext (by omega) fun j hj => hb j (by omega))
theorem nth_extT {a b : List (List Int)} (h : a.length = b.length) (h' : ∀ j, j < a.length → nth a j = nth b j) : a = b := by
  refine List.ext_getElem h fun i h1 h2 => ?_
  have := h' i h1
  rwa [nth_eq a i h1, nth_eq b i h2] at this
theorem f29 (a b : List (List Int)) : FnR Try.prog 7 [.c (Tab a), .c (Tab b)] [.c (.B (decide (a = b)))] := by
  refine FnR_len (pre := []) (post := [.c (Tab b)]) (fnCode_callB code7) fun hl => ?_
  simp only [List.length_map, maxLen] at hl
  refine fn_walk code7 (by simp) ?_
  (repeat' (first | refine NextAt.mk (fun hc => ?_) (fun pre n v post hc hkey => ?_) | refine Sni.mk (fun hc => ?_) ?_ | refine Both.mk ?_ ?_ | refine AW_seq ?_ | refine AW_block ?_ | ((first | refine AW_reg ?_ | refine AW_cond ?_ | refine AW_skip ?_ | refine AW_exit ?_ | refine AW_ret ?_ | refine AW_regD (by kernel_rfl) ?_ | refine AW_regX (by kernel_rfl) ?_ | refine CallAtG.t (Eq.refl true) ?_ | refine CallAtG.f (Eq.refl false) ?_); try simp (disch := omega) only [go_sem, seval, reduceCtorEq, ↓reduceIte, beq_dec, Int.toNat_natCast, IntKind.signed, IntKind.bits]) | refine And.intro (fun hc => (?_ : AW _ _ _ _)) (fun hc => (?_ : AW _ _ _ _)) | simp (disch := omega) only [go_sem, seval, reduceCtorEq, ↓reduceIte, beq_dec, Int.toNat_natCast, IntKind.signed, IntKind.bits] | (refine And.intro ?_ ?_; focus (first | (intros; omega) | (intros; simp_all; done))) | refine And.intro (?_ : CallAt _ _ _ _ _ _ _ _) ?_ | refine And.intro (?_ : CallAt _ _ _ _ _ _ _ _ ∧ _) ?_ | refine And.intro (?_ : AW _ _ _ _) ?_ | fail))
  · symm; rw [decide_eq_false_iff_not]; rintro rfl; omega
  refine AW_loopK [0, 1] [4, 5, 11, 12, 13, 14, 15, 16, 17, 18, 19, 20, 21, 22, 23, 24, 25, 26] (fun i : Nat => i ≤ a.length ∧ ∀ j, j < i → nth a j = nth b j) (fun i => [(5, .I i)]) (fun _ => []) (fun i => a.length - i) 0 ⟨by omega, by omega⟩ ?_ ?_
  · simp (disch := omega) only [go_sem, seval, reduceCtorEq, ↓reduceIte, beq_dec, Int.toNat_natCast, IntKind.signed, IntKind.bits, Int.natCast_zero]
  · rintro i ⟨hi', hb⟩
    (repeat' (first | refine NextAt.mk (fun hc => ?_) (fun pre n v post hc hkey => ?_) | refine Sni.mk (fun hc => ?_) ?_ | refine Both.mk ?_ ?_ | refine AW_seq ?_ | refine AW_block ?_ | ((first | refine AW_reg ?_ | refine AW_cond ?_ | refine AW_skip ?_ | refine AW_exit ?_ | refine AW_ret ?_ | refine AW_regD (by kernel_rfl) ?_ | refine AW_regX (by kernel_rfl) ?_ | refine CallAtG.t (Eq.refl true) ?_ | refine CallAtG.f (Eq.refl false) ?_ | refine CallAt.mk _ (f43 ..) (by first | (intro h; cases h; done) | (intro _; repeat' (first | exact List.forall_mem_nil _ | trivial | refine List.forall_mem_cons.2 ⟨?_, ?_⟩)) | (intro _; simp [RV.flatP, CD.flatP, getD_map (fun r : List Int => [Row r])]; done)) ?_ | refine CallAtG.mk _ (fun _ => f43 ..) ?_ | refine CallDS.mk _ (by simp [RV.data]) (fun _ => f43 ..) (by first | (intro h; cases h; done) | (intro _; repeat' (first | exact List.forall_mem_nil _ | trivial | refine List.forall_mem_cons.2 ⟨?_, ?_⟩)) | (intro _; simp [RV.flatP, CD.flatP, getD_map (fun r : List Int => [Row r])]; done)) ?_); try simp (disch := omega) only [go_sem, seval, reduceCtorEq, ↓reduceIte, beq_dec, Int.toNat_natCast, IntKind.signed, IntKind.bits, getD_map (fun r : List Int => [Row r])]) | refine And.intro (fun hc => (?_ : AW _ _ _ _)) (fun hc => (?_ : AW _ _ _ _)) | simp (disch := omega) only [go_sem, seval, reduceCtorEq, ↓reduceIte, beq_dec, Int.toNat_natCast, IntKind.signed, IntKind.bits, getD_map (fun r : List Int => [Row r])] | (refine And.intro ?_ ?_; focus (first | (intros; omega) | (intros; simp_all; done))) | refine And.intro (?_ : CallAt _ _ _ _ _ _ _ _) ?_ | refine And.intro (?_ : CallAt _ _ _ _ _ _ _ _ ∧ _) ?_ | refine And.intro (?_ : AW _ _ _ _) ?_ | fail))
    · symm; rw [decide_eq_false_iff_not]; rintro rfl; simp_all
    · refine .mk (i + 1) ⟨by omega, step_lt hb (by simp_all)⟩ (by omega) ?_
      simp (disch := omega) only [go_sem, seval, reduceCtorEq, ↓reduceIte, beq_dec, Int.toNat_natCast, IntKind.signed, IntKind.bits, Int.natCast_add, Int.natCast_one]
    · symm; exact decide_eq_true (nth_extT (by omega) fun j hj => hb j (by omega))
def upto (n : Nat) : List Int := (List.range n).map fun (i : Nat) => (i : Int)
theorem upto_len (n : Nat) : (upto n).length = n := by simp [upto]
end Go.Proofs.Ytddhinbiahcjlaa

-- P p_27s.txt
open Go Go.AL Go.RowKit
namespace Go.Proofs.Ytddhinbiahcjlaa
set_option maxRecDepth 20000

def part (n : Int) (t : List (List Int)) (rows cols : List Int) : Bool := asc rows 0 ((t.length : Int) - 1) && asc cols 0 (n - 1)
theorem asc_ge {l : List Int} {lo hi : Int} (h : asc l lo hi = true) : ∀ i, i < l.length → lo + i ≤ nth l i
  | 0, hi' => by
    have := of_decide_eq_true h 0 hi'
    unfold Asc at this; omega
  | i + 1, hi' => by
    have h1 := asc_ge h i (by omega)
    have := of_decide_eq_true h (i + 1) hi'
    unfold Asc at this
    simp only [Nat.add_sub_cancel] at this
    omega
theorem asc_len {l : List Int} {lo hi : Int} (h : asc l lo hi = true) : l.length ≤ (hi - lo + 1).toNat := by
  rcases Nat.eq_zero_or_pos l.length with h0 | h0
  · omega
  · have h1 := asc_ge h (l.length - 1) (by omega)
    have := of_decide_eq_true h (l.length - 1) (by omega)
    unfold Asc at this
    omega
def cutN (r cols : List Int) (k : Nat) : List Int := ((List.range k).filter fun k => decide (nth cols k ∈ r)).map fun (k : Nat) => (k : Int)
def cutT (t : List (List Int)) (rows cols : List Int) : List (List Int) := rows.map fun j => cutN (nth t j.toNat) cols cols.length
def cutErr (n : Int) (t : List (List Int)) (rows cols : List Int) : Int := if validT n t = false then 1 else if part n t rows cols = false then 2 else 0
theorem validT_of {n : Int} {t : List (List Int)} (h : validT n t = true) : 0 ≤ n ∧ n ≤ 7 ∧ t.length ≤ 16 ∧ ∀ i, i < t.length → asc (nth t i) 0 (n - 1) = true := of_decide_eq_true h
def cutR (n : Int) (t : List (List Int)) (rows cols : List Int) : List (List Int) := if cutErr n t rows cols = 0 then cutT t rows cols else []
end Go.Proofs.Ytddhinbiahcjlaa

