/-
  Lemmas for the proof: no statement of its own.
-/
import Derived.Test.YthpnplebcmijnaaCodeA
import Derived.Test.YthpnplebcmijnaaAlD
import Derived.Test.YthpnplebcmijnaaIterC
import Derived.Test.YthpnplebcmijnaaIterB
set_option linter.unusedVariables false
set_option linter.unusedSimpArgs false
-- P p_w.txt
open Go Go.AL Go.RowKit
namespace Go.Proofs.Ythpnplebcmijnaa
set_option maxRecDepth 20000

abbrev Row (l : List Int) : CD := .sl 1 (l.map fun x => [CD.I x])
abbrev ORow (l : List Int) : RV := .own 3 1 (l.map fun x => [CD.I x])
def cdE (p : Int × Int) : List CD := [.I p.1, .I p.2]
abbrev EL (l : List (Int × Int)) : CD := .sl 2 (l.map cdE)
structure Sd where
  (v : Int) (is : Bool)
deriving DecidableEq, Inhabited
def Sd.cd (s : Sd) : List CD := [.I s.v, .B s.is]
abbrev Sd.av (s : Sd) : AV := .agg [.I s.v, .B s.is]
structure Chg where
  (key old new : Int) (had has : Bool)
deriving DecidableEq, Inhabited
def Chg.cd (c : Chg) : List CD := [.I c.key, .I c.old, .I c.new, .B c.had, .B c.has]
abbrev Chg.av (c : Chg) : AV := .agg [.I c.key, .I c.old, .I c.new, .B c.had, .B c.has]
abbrev CL (l : List Chg) : CD := .sl 5 (l.map Chg.cd)
def Chg.aft (c : Chg) : Sd := ⟨c.new, c.has⟩
def Chg.bef (c : Chg) : Sd := ⟨c.old, c.had⟩
def mkC (k : Int) (a b : Sd) : Chg := ⟨k, a.v, b.v, a.is, b.is⟩
theorem f39 (c : Chg) : FnR Try.prog 18 [c.av] [.agg c.aft.cd] := by
  refine fn_walk code18 (by simp) ?_
  (repeat' (first | refine NextAt.mk (fun hc => ?_) (fun pre n v post hc hkey => ?_) | refine Sni.mk (fun hc => ?_) ?_ | refine AW_seq ?_ | refine AW_block ?_ | ((first | refine AW_reg ?_ | refine AW_cond ?_ | refine AW_skip ?_ | refine AW_exit ?_ | refine AW_ret ?_ | refine AW_regD (by kernel_rfl) ?_ | refine AW_regX (by kernel_rfl) ?_ | refine CallAtG.t (Eq.refl true) ?_ | refine CallAtG.f (Eq.refl false) ?_); try simp (disch := omega) only [go_sem, Nat.reduceLT, Nat.reduceAdd, Nat.reduceSub, Nat.reduceMul, Nat.reduceMod, Nat.reduceDiv, Nat.reduceBEq, Nat.reduceEqDiff, Nat.reduceLeDiff, reduceCtorEq, ↓reduceIte, beq_dec, Int.reduceToNat, Int.reduceLT, Int.reduceLE, Int.reduceAdd, Int.reduceSub, Int.reduceMul, Int.reduceEq, Int.reduceNeg, Int.reduceNe, Int.toNat_natCast, IntKind.signed, IntKind.bits, Int.reducePow, Nat.reducePow, Sd.cd, Chg.aft]) | refine And.intro (fun hc => (?_ : AW _ _ _ _)) (fun hc => (?_ : AW _ _ _ _)) | simp (disch := omega) only [go_sem, Nat.reduceLT, Nat.reduceAdd, Nat.reduceSub, Nat.reduceMul, Nat.reduceMod, Nat.reduceDiv, Nat.reduceBEq, Nat.reduceEqDiff, Nat.reduceLeDiff, reduceCtorEq, ↓reduceIte, beq_dec, Int.reduceToNat, Int.reduceLT, Int.reduceLE, Int.reduceAdd, Int.reduceSub, Int.reduceMul, Int.reduceEq, Int.reduceNeg, Int.reduceNe, Int.toNat_natCast, IntKind.signed, IntKind.bits, Int.reducePow, Nat.reducePow, Sd.cd, Chg.aft] | (refine And.intro ?_ ?_; focus (first | (intros; omega) | (intros; simp_all; done))) | refine And.intro (?_ : CallAt _ _ _ _ _ _ _ _) ?_ | refine And.intro (?_ : CallAt _ _ _ _ _ _ _ _ ∧ _) ?_ | fail))
theorem f40 (c : Chg) : FnR Try.prog 17 [c.av] [.agg c.bef.cd] := by
  refine fn_walk code17 (by simp) ?_
  (repeat' (first | refine NextAt.mk (fun hc => ?_) (fun pre n v post hc hkey => ?_) | refine Sni.mk (fun hc => ?_) ?_ | refine AW_seq ?_ | refine AW_block ?_ | ((first | refine AW_reg ?_ | refine AW_cond ?_ | refine AW_skip ?_ | refine AW_exit ?_ | refine AW_ret ?_ | refine AW_regD (by kernel_rfl) ?_ | refine AW_regX (by kernel_rfl) ?_ | refine CallAtG.t (Eq.refl true) ?_ | refine CallAtG.f (Eq.refl false) ?_); try simp (disch := omega) only [go_sem, Nat.reduceLT, Nat.reduceAdd, Nat.reduceSub, Nat.reduceMul, Nat.reduceMod, Nat.reduceDiv, Nat.reduceBEq, Nat.reduceEqDiff, Nat.reduceLeDiff, reduceCtorEq, ↓reduceIte, beq_dec, Int.reduceToNat, Int.reduceLT, Int.reduceLE, Int.reduceAdd, Int.reduceSub, Int.reduceMul, Int.reduceEq, Int.reduceNeg, Int.reduceNe, Int.toNat_natCast, IntKind.signed, IntKind.bits, Int.reducePow, Nat.reducePow, Sd.cd, Chg.bef]) | refine And.intro (fun hc => (?_ : AW _ _ _ _)) (fun hc => (?_ : AW _ _ _ _)) | simp (disch := omega) only [go_sem, Nat.reduceLT, Nat.reduceAdd, Nat.reduceSub, Nat.reduceMul, Nat.reduceMod, Nat.reduceDiv, Nat.reduceBEq, Nat.reduceEqDiff, Nat.reduceLeDiff, reduceCtorEq, ↓reduceIte, beq_dec, Int.reduceToNat, Int.reduceLT, Int.reduceLE, Int.reduceAdd, Int.reduceSub, Int.reduceMul, Int.reduceEq, Int.reduceNeg, Int.reduceNe, Int.toNat_natCast, IntKind.signed, IntKind.bits, Int.reducePow, Nat.reducePow, Sd.cd, Chg.bef] | (refine And.intro ?_ ?_; focus (first | (intros; omega) | (intros; simp_all; done))) | refine And.intro (?_ : CallAt _ _ _ _ _ _ _ _) ?_ | refine And.intro (?_ : CallAt _ _ _ _ _ _ _ _ ∧ _) ?_ | fail))
theorem f33 (k : Int) (a b : Sd) : FnR Try.prog 15 [.I k, a.av, b.av] [.agg (mkC k a b).cd] := by
  refine fn_walk code15 (by simp) ?_
  (repeat' (first | refine NextAt.mk (fun hc => ?_) (fun pre n v post hc hkey => ?_) | refine Sni.mk (fun hc => ?_) ?_ | refine AW_seq ?_ | refine AW_block ?_ | ((first | refine AW_reg ?_ | refine AW_cond ?_ | refine AW_skip ?_ | refine AW_exit ?_ | refine AW_ret ?_ | refine AW_regD (by kernel_rfl) ?_ | refine AW_regX (by kernel_rfl) ?_ | refine CallAtG.t (Eq.refl true) ?_ | refine CallAtG.f (Eq.refl false) ?_); try simp (disch := omega) only [go_sem, Nat.reduceLT, Nat.reduceAdd, Nat.reduceSub, Nat.reduceMul, Nat.reduceMod, Nat.reduceDiv, Nat.reduceBEq, Nat.reduceEqDiff, Nat.reduceLeDiff, reduceCtorEq, ↓reduceIte, beq_dec, Int.reduceToNat, Int.reduceLT, Int.reduceLE, Int.reduceAdd, Int.reduceSub, Int.reduceMul, Int.reduceEq, Int.reduceNeg, Int.reduceNe, Int.toNat_natCast, IntKind.signed, IntKind.bits, Int.reducePow, Nat.reducePow, Chg.cd, mkC]) | refine And.intro (fun hc => (?_ : AW _ _ _ _)) (fun hc => (?_ : AW _ _ _ _)) | simp (disch := omega) only [go_sem, Nat.reduceLT, Nat.reduceAdd, Nat.reduceSub, Nat.reduceMul, Nat.reduceMod, Nat.reduceDiv, Nat.reduceBEq, Nat.reduceEqDiff, Nat.reduceLeDiff, reduceCtorEq, ↓reduceIte, beq_dec, Int.reduceToNat, Int.reduceLT, Int.reduceLE, Int.reduceAdd, Int.reduceSub, Int.reduceMul, Int.reduceEq, Int.reduceNeg, Int.reduceNe, Int.toNat_natCast, IntKind.signed, IntKind.bits, Int.reducePow, Nat.reducePow, Chg.cd, mkC] | (refine And.intro ?_ ?_; focus (first | (intros; omega) | (intros; simp_all; done))) | refine And.intro (?_ : CallAt _ _ _ _ _ _ _ _) ?_ | refine And.intro (?_ : CallAt _ _ _ _ _ _ _ _ ∧ _) ?_ | fail))
theorem step_lt {p : Nat → Prop} {i : Nat} (h : ∀ j, j < i → p j) (hi : p i) : ∀ j, j < i + 1 → p j := fun j hj => by
  rcases Nat.lt_succ_iff_lt_or_eq.1 hj with h' | rfl
  · exact h j h'
  · exact hi
theorem not_mem_nth {l : List Int} {x : Int} (h : ∀ j, j < l.length → nth l j ≠ x) : x ∉ l := by
  intro hm
  obtain ⟨j, hj, e⟩ := List.getElem_of_mem hm
  exact h j hj (by rw [nth_eq l j hj]; exact e)
theorem eq_of_nth {α : Type} [Inhabited α] {a b : List α} (hl : a.length = b.length) (h : ∀ j, j < a.length → nth a j = nth b j) : a = b := by
  apply List.ext_getElem hl
  intro i h1 h2
  have := h i h1
  rwa [nth_eq a i h1, nth_eq b i h2] at this
/-- the value of a key, if there is one -/
def atR : List (Int × Int) → Int → Sd
  | [], _ => ⟨0, false⟩
  | p :: r, k => if p.1 = k then ⟨p.2, true⟩ else atR r k
theorem atR_found {l : List (Int × Int)} {k : Int} : ∀ {i : Nat}, i < l.length → (nth l i).1 = k → (∀ j, j < i → (nth l j).1 ≠ k) → atR l k = ⟨(nth l i).2, true⟩ := by
  induction l with
  | nil => intro i h; simp at h
  | cons p r ih =>
    intro i hi he hb
    cases i with
    | zero =>
      have he' : p.1 = k := by simpa [nth] using he
      simp [atR, he', nth]
    | succ i =>
      have h0 : p.1 ≠ k := by simpa [nth] using hb 0 (by omega)
      have e : nth (p :: r) (i + 1) = nth r i := by simp [nth]
      rw [e] at he ⊢
      simp only [atR, h0, if_false]
      exact ih (by simpa using hi) he fun j hj => by
        have := hb (j + 1) (by omega)
        simpa [nth] using this
theorem atR_none {l : List (Int × Int)} {k : Int} (h : ∀ j, j < l.length → (nth l j).1 ≠ k) : atR l k = ⟨0, false⟩ := by
  induction l with
  | nil => rfl
  | cons p r ih =>
    have h0 : p.1 ≠ k := by simpa [nth] using h 0 (by simp)
    simp only [atR, h0, if_false]
    exact ih fun j hj => by
      have := h (j + 1) (by simpa using hj)
      simpa [nth] using this
def findR (l : List Chg) (k : Int) : Int := if k ∈ l.map Chg.key then ((l.map Chg.key).idxOf k : Int) else -1
theorem f16 (a b : List (Int × Int)) : FnR Try.prog 7 [.c (EL a), .c (EL b)] [.c (.B (decide (a = b)))] := by
  refine FnR_len (pre := []) (fnCode_callB code7) fun hlen => ?_
  simp only [List.length_map, maxLen] at hlen
  refine fn_walk code7 (by simp) ?_
  (repeat' (first | refine NextAt.mk (fun hc => ?_) (fun pre n v post hc hkey => ?_) | refine Sni.mk (fun hc => ?_) ?_ | refine AW_seq ?_ | refine AW_block ?_ | ((first | refine AW_reg ?_ | refine AW_cond ?_ | refine AW_skip ?_ | refine AW_exit ?_ | refine AW_ret ?_ | refine AW_regD (by kernel_rfl) ?_ | refine AW_regX (by kernel_rfl) ?_ | refine CallAtG.t (Eq.refl true) ?_ | refine CallAtG.f (Eq.refl false) ?_); try simp (disch := omega) only [go_sem, Nat.reduceLT, Nat.reduceAdd, Nat.reduceSub, Nat.reduceMul, Nat.reduceMod, Nat.reduceDiv, Nat.reduceBEq, Nat.reduceEqDiff, Nat.reduceLeDiff, reduceCtorEq, ↓reduceIte, beq_dec, Int.reduceToNat, Int.reduceLT, Int.reduceLE, Int.reduceAdd, Int.reduceSub, Int.reduceMul, Int.reduceEq, Int.reduceNeg, Int.reduceNe, Int.toNat_natCast, IntKind.signed, IntKind.bits, Int.reducePow, Nat.reducePow]) | refine And.intro (fun hc => (?_ : AW _ _ _ _)) (fun hc => (?_ : AW _ _ _ _)) | simp (disch := omega) only [go_sem, Nat.reduceLT, Nat.reduceAdd, Nat.reduceSub, Nat.reduceMul, Nat.reduceMod, Nat.reduceDiv, Nat.reduceBEq, Nat.reduceEqDiff, Nat.reduceLeDiff, reduceCtorEq, ↓reduceIte, beq_dec, Int.reduceToNat, Int.reduceLT, Int.reduceLE, Int.reduceAdd, Int.reduceSub, Int.reduceMul, Int.reduceEq, Int.reduceNeg, Int.reduceNe, Int.toNat_natCast, IntKind.signed, IntKind.bits, Int.reducePow, Nat.reducePow] | (refine And.intro ?_ ?_; focus (first | (intros; omega) | (intros; simp_all; done))) | refine And.intro (?_ : CallAt _ _ _ _ _ _ _ _) ?_ | refine And.intro (?_ : CallAt _ _ _ _ _ _ _ _ ∧ _) ?_ | fail))
  · simp; intro h; subst h; exact hc rfl
  · have hl : a.length = b.length := by omega
    refine AW_loopK [0, 1] [4, 5, 11, 12, 13, 14, 15, 16, 17, 18, 19, 20, 21, 22, 23, 24, 25] (fun i : Nat => i ≤ a.length ∧ ∀ j, j < i → nth a j = nth b j) (fun i => [(5, .I i)]) (fun _ => []) (fun i => a.length - i) 0 ⟨by omega, by omega⟩ ?_ ?_
    · simp (disch := omega) only [go_sem, Nat.reduceLT, Nat.reduceAdd, Nat.reduceSub, Nat.reduceMul, Nat.reduceMod, Nat.reduceDiv, Nat.reduceBEq, Nat.reduceEqDiff, Nat.reduceLeDiff, reduceCtorEq, ↓reduceIte, beq_dec, Int.reduceToNat, Int.reduceLT, Int.reduceLE, Int.reduceAdd, Int.reduceSub, Int.reduceMul, Int.reduceEq, Int.reduceNeg, Int.reduceNe, Int.toNat_natCast, IntKind.signed, IntKind.bits, Int.reducePow, Nat.reducePow, Int.natCast_zero]
    · rintro i ⟨hi, hv⟩
      (repeat' (first | refine NextAt.mk (fun hc => ?_) (fun pre n v post hc hkey => ?_) | refine Sni.mk (fun hc => ?_) ?_ | refine AW_seq ?_ | refine AW_block ?_ | ((first | refine AW_reg ?_ | refine AW_cond ?_ | refine AW_skip ?_ | refine AW_exit ?_ | refine AW_ret ?_ | refine AW_regD (by kernel_rfl) ?_ | refine AW_regX (by kernel_rfl) ?_ | refine CallAtG.t (Eq.refl true) ?_ | refine CallAtG.f (Eq.refl false) ?_); try simp (disch := omega) only [go_sem, Nat.reduceLT, Nat.reduceAdd, Nat.reduceSub, Nat.reduceMul, Nat.reduceMod, Nat.reduceDiv, Nat.reduceBEq, Nat.reduceEqDiff, Nat.reduceLeDiff, reduceCtorEq, ↓reduceIte, beq_dec, Int.reduceToNat, Int.reduceLT, Int.reduceLE, Int.reduceAdd, Int.reduceSub, Int.reduceMul, Int.reduceEq, Int.reduceNeg, Int.reduceNe, Int.toNat_natCast, IntKind.signed, IntKind.bits, Int.reducePow, Nat.reducePow, getD_map cdE, cdE]) | refine And.intro (fun hc => (?_ : AW _ _ _ _)) (fun hc => (?_ : AW _ _ _ _)) | simp (disch := omega) only [go_sem, Nat.reduceLT, Nat.reduceAdd, Nat.reduceSub, Nat.reduceMul, Nat.reduceMod, Nat.reduceDiv, Nat.reduceBEq, Nat.reduceEqDiff, Nat.reduceLeDiff, reduceCtorEq, ↓reduceIte, beq_dec, Int.reduceToNat, Int.reduceLT, Int.reduceLE, Int.reduceAdd, Int.reduceSub, Int.reduceMul, Int.reduceEq, Int.reduceNeg, Int.reduceNe, Int.toNat_natCast, IntKind.signed, IntKind.bits, Int.reducePow, Nat.reducePow, getD_map cdE, cdE] | (refine And.intro ?_ ?_; focus (first | (intros; omega) | (intros; simp_all; done))) | refine And.intro (?_ : CallAt _ _ _ _ _ _ _ _) ?_ | refine And.intro (?_ : CallAt _ _ _ _ _ _ _ _ ∧ _) ?_ | fail))
      · symm; simp only [decide_eq_false_iff_not]; intro h; subst h; simp at hc
      · refine .mk (i + 1) ⟨by omega, step_lt hv (Prod.ext hc.1 hc.2)⟩ (by omega) ?_
        simp (disch := omega) only [go_sem, Nat.reduceLT, Nat.reduceAdd, Nat.reduceSub, Nat.reduceMul, Nat.reduceMod, Nat.reduceDiv, Nat.reduceBEq, Nat.reduceEqDiff, Nat.reduceLeDiff, reduceCtorEq, ↓reduceIte, beq_dec, Int.reduceToNat, Int.reduceLT, Int.reduceLE, Int.reduceAdd, Int.reduceSub, Int.reduceMul, Int.reduceEq, Int.reduceNeg, Int.reduceNe, Int.toNat_natCast, IntKind.signed, IntKind.bits, Int.reducePow, Nat.reducePow, Int.natCast_add, Int.natCast_one]
      · symm; simp only [decide_eq_true_eq]; exact eq_of_nth hl fun j hj => hv j (by omega)
theorem chg_ext {s t : Chg} (h : s.key = t.key ∧ s.old = t.old ∧ s.new = t.new ∧ s.had = t.had ∧ s.has = t.has) : s = t := by
  cases s; cases t; simp at h; simp [h]
end Go.Proofs.Ythpnplebcmijnaa

-- P p_w.txt
open Go Go.AL Go.RowKit
namespace Go.Proofs.Ythpnplebcmijnaa
set_option maxRecDepth 20000

theorem toNat_pred (i : Nat) : ((i : Int) - 1).toNat = i - 1 := by omega
def validE (l : List (Int × Int)) : Bool := decide (l.length ≤ 64 ∧ ∀ i, i < l.length → 0 < i → (nth l (i - 1)).1 < (nth l i).1)
theorem validE_no {l : List (Int × Int)} {i : Nat} (h : i < l.length) (h0 : 0 < i) (hn : ¬ (nth l (i - 1)).1 < (nth l i).1) : validE l = false := by
  unfold validE
  rw [decide_eq_false_iff_not]
  exact fun h' => hn (h'.2 i h h0)
theorem f20 (l : List (Int × Int)) : FnR Try.prog 11 [.c (EL l)] [.c (.B (validE l))] := by
  refine FnR_len (pre := []) (post := []) (fnCode_callB code11) fun hl => ?_
  simp only [List.length_map, maxLen] at hl
  refine fn_walk code11 (by simp) ?_
  (repeat' (first | refine NextAt.mk (fun hc => ?_) (fun pre n v post hc hkey => ?_) | refine Sni.mk (fun hc => ?_) ?_ | refine AW_seq ?_ | refine AW_block ?_ | ((first | refine AW_reg ?_ | refine AW_cond ?_ | refine AW_skip ?_ | refine AW_exit ?_ | refine AW_ret ?_ | refine AW_regD (by kernel_rfl) ?_ | refine AW_regX (by kernel_rfl) ?_ | refine CallAtG.t (Eq.refl true) ?_ | refine CallAtG.f (Eq.refl false) ?_); try simp (disch := omega) only [go_sem, Nat.reduceLT, Nat.reduceAdd, Nat.reduceSub, Nat.reduceMul, Nat.reduceMod, Nat.reduceDiv, Nat.reduceBEq, Nat.reduceEqDiff, Nat.reduceLeDiff, reduceCtorEq, ↓reduceIte, beq_dec, Int.reduceToNat, Int.reduceLT, Int.reduceLE, Int.reduceAdd, Int.reduceSub, Int.reduceMul, Int.reduceEq, Int.reduceNeg, Int.reduceNe, Int.toNat_natCast, IntKind.signed, IntKind.bits, Int.reducePow, Nat.reducePow]) | refine And.intro (fun hc => (?_ : AW _ _ _ _)) (fun hc => (?_ : AW _ _ _ _)) | simp (disch := omega) only [go_sem, Nat.reduceLT, Nat.reduceAdd, Nat.reduceSub, Nat.reduceMul, Nat.reduceMod, Nat.reduceDiv, Nat.reduceBEq, Nat.reduceEqDiff, Nat.reduceLeDiff, reduceCtorEq, ↓reduceIte, beq_dec, Int.reduceToNat, Int.reduceLT, Int.reduceLE, Int.reduceAdd, Int.reduceSub, Int.reduceMul, Int.reduceEq, Int.reduceNeg, Int.reduceNe, Int.toNat_natCast, IntKind.signed, IntKind.bits, Int.reducePow, Nat.reducePow] | (refine And.intro ?_ ?_; focus (first | (intros; omega) | (intros; simp_all; done))) | refine And.intro (?_ : CallAt _ _ _ _ _ _ _ _) ?_ | refine And.intro (?_ : CallAt _ _ _ _ _ _ _ _ ∧ _) ?_ | fail))
  refine AW_loopK [0, 5] [2, 3, 6, 7, 8, 9, 10, 11, 12, 13, 14, 15, 16, 17, 18, 19, 20, 21, 22, 23, 24, 25] (fun i : Nat => i ≤ l.length ∧ ∀ j, j < i → 0 < j → (nth l (j - 1)).1 < (nth l j).1) (fun i => [(6, .I i)]) (fun _ => []) (fun i => l.length - i) 0 ⟨by omega, by omega⟩ ?_ ?_
  · simp (disch := omega) only [go_sem, Nat.reduceLT, Nat.reduceAdd, Nat.reduceSub, Nat.reduceMul, Nat.reduceMod, Nat.reduceDiv, Nat.reduceBEq, Nat.reduceEqDiff, Nat.reduceLeDiff, reduceCtorEq, ↓reduceIte, beq_dec, Int.reduceToNat, Int.reduceLT, Int.reduceLE, Int.reduceAdd, Int.reduceSub, Int.reduceMul, Int.reduceEq, Int.reduceNeg, Int.reduceNe, Int.toNat_natCast, IntKind.signed, IntKind.bits, Int.reducePow, Nat.reducePow, Int.natCast_zero]
  · rintro i ⟨hi, hb⟩
    (repeat' (first | refine NextAt.mk (fun hc => ?_) (fun pre n v post hc hkey => ?_) | refine Sni.mk (fun hc => ?_) ?_ | refine AW_seq ?_ | refine AW_block ?_ | ((first | refine AW_reg ?_ | refine AW_cond ?_ | refine AW_skip ?_ | refine AW_exit ?_ | refine AW_ret ?_ | refine AW_regD (by kernel_rfl) ?_ | refine AW_regX (by kernel_rfl) ?_ | refine CallAtG.t (Eq.refl true) ?_ | refine CallAtG.f (Eq.refl false) ?_); try simp (disch := omega) only [go_sem, Nat.reduceLT, Nat.reduceAdd, Nat.reduceSub, Nat.reduceMul, Nat.reduceMod, Nat.reduceDiv, Nat.reduceBEq, Nat.reduceEqDiff, Nat.reduceLeDiff, reduceCtorEq, ↓reduceIte, beq_dec, Int.reduceToNat, Int.reduceLT, Int.reduceLE, Int.reduceAdd, Int.reduceSub, Int.reduceMul, Int.reduceEq, Int.reduceNeg, Int.reduceNe, Int.toNat_natCast, IntKind.signed, IntKind.bits, Int.reducePow, Nat.reducePow, getD_map cdE, cdE, toNat_pred]) | refine And.intro (fun hc => (?_ : AW _ _ _ _)) (fun hc => (?_ : AW _ _ _ _)) | simp (disch := omega) only [go_sem, Nat.reduceLT, Nat.reduceAdd, Nat.reduceSub, Nat.reduceMul, Nat.reduceMod, Nat.reduceDiv, Nat.reduceBEq, Nat.reduceEqDiff, Nat.reduceLeDiff, reduceCtorEq, ↓reduceIte, beq_dec, Int.reduceToNat, Int.reduceLT, Int.reduceLE, Int.reduceAdd, Int.reduceSub, Int.reduceMul, Int.reduceEq, Int.reduceNeg, Int.reduceNe, Int.toNat_natCast, IntKind.signed, IntKind.bits, Int.reducePow, Nat.reducePow, getD_map cdE, cdE, toNat_pred] | (refine And.intro ?_ ?_; focus (first | (intros; omega) | (intros; simp_all; done))) | refine And.intro (?_ : CallAt _ _ _ _ _ _ _ _) ?_ | refine And.intro (?_ : CallAt _ _ _ _ _ _ _ _ ∧ _) ?_ | fail))
    · rw [validE_no (i := i) (by omega) (by omega) (by omega)]
    · refine .mk (i + 1) ⟨by omega, step_lt hb (by intro h0; omega)⟩ (by omega) ?_
      simp (disch := omega) only [go_sem, Nat.reduceLT, Nat.reduceAdd, Nat.reduceSub, Nat.reduceMul, Nat.reduceMod, Nat.reduceDiv, Nat.reduceBEq, Nat.reduceEqDiff, Nat.reduceLeDiff, reduceCtorEq, ↓reduceIte, beq_dec, Int.reduceToNat, Int.reduceLT, Int.reduceLE, Int.reduceAdd, Int.reduceSub, Int.reduceMul, Int.reduceEq, Int.reduceNeg, Int.reduceNe, Int.toNat_natCast, IntKind.signed, IntKind.bits, Int.reducePow, Nat.reducePow, Int.natCast_add, Int.natCast_one]
    · unfold validE
      rw [decide_eq_decide]
      constructor
      · intro h; exact ⟨by omega, fun j hj h0 => hb j (by omega) h0⟩
      · intro h; omega
def chgOk (c : Chg) : Bool := decide (c.bef ≠ c.aft) && (c.had || decide (c.old = 0)) && (c.has || decide (c.new = 0))
def validC (l : List Chg) : Bool := decide (l.length ≤ 64 ∧ ∀ i, i < l.length → chgOk (nth l i) = true ∧ (0 < i → (nth l (i - 1)).key < (nth l i).key))
theorem validC_no {l : List Chg} {i : Nat} (h : i < l.length) (hn : ¬ (chgOk (nth l i) = true ∧ (0 < i → (nth l (i - 1)).key < (nth l i).key))) : validC l = false := by
  unfold validC
  rw [decide_eq_false_iff_not]
  exact fun h' => hn (h'.2 i h)
end Go.Proofs.Ythpnplebcmijnaa

-- P p_w.txt
open Go Go.AL Go.RowKit
namespace Go.Proofs.Ythpnplebcmijnaa
set_option maxRecDepth 20000

def ins (n : Int) : List Int → List Int
  | [] => [n]
  | x :: r => if x < n then x :: ins n r else if x = n then x :: r else n :: x :: r
theorem ins_len (n : Int) : ∀ l : List Int, (ins n l).length ≤ l.length + 1
  | [] => by simp [ins]
  | x :: r => by
    have := ins_len n r
    unfold ins
    split
    · simp; omega
    · split <;> simp
theorem ins_at (n : Int) : ∀ (l : List Int) (k : Nat), k ≤ l.length → (∀ j, j < k → nth l j < n) → (k < l.length → ¬ nth l k < n) → ins n l = if k < l.length ∧ nth l k = n then l else l.take k ++ (n :: l.drop k)
  | [], k, hk, _, _ => by
    have : k = 0 := by simpa using hk
    subst this; simp [ins]
  | x :: r, 0, _, _, h => by
    have h0 := h (by simp)
    simp only [nth, List.getD_cons_zero] at h0
    have e : nth (x :: r) 0 = x := rfl
    rw [e]
    unfold ins
    rw [if_neg h0]
    by_cases hx : x = n
    · simp [hx]
    · simp [hx]
  | x :: r, k + 1, hk, hb, h => by
    have h0 : x < n := hb 0 (by omega)
    have e : ∀ j, nth (x :: r) (j + 1) = nth r j := fun j => by simp [nth]
    have ih := ins_at n r k (by simpa using hk) (fun j hj => by have := hb (j + 1) (by omega); rwa [e] at this) (fun hl => by have := h (by simpa using hl); rwa [e] at this)
    unfold ins
    rw [if_pos h0, ih, e]
    by_cases hx : k < r.length ∧ nth r k = n
    · rw [if_pos hx, if_pos ⟨by simpa using hx.1, hx.2⟩]
    · rw [if_neg hx, if_neg (fun h => hx ⟨by simpa using h.1, h.2⟩)]
      simp
set_option maxHeartbeats 4000000 in
theorem findR_at {l : List Chg} {k : Int} {i : Nat} (hi : i < l.length) (h : (nth l i).key = k) (hb : ∀ j, j < i → (nth l j).key ≠ k) : findR l k = i := by
  have e : ∀ j, j < l.length → nth (l.map Chg.key) j = (nth l j).key := fun j hj => by
    rw [nth_eq _ j (by simpa using hj), nth_eq l j hj]; simp
  have hm : k ∈ l.map Chg.key := List.mem_map.2 ⟨nth l i, nth_mem l i hi, h⟩
  unfold findR
  rw [if_pos hm]
  have h1 : (l.map Chg.key).idxOf k < (l.map Chg.key).length := List.idxOf_lt_length_iff.2 hm
  have h2 : (l.map Chg.key)[(l.map Chg.key).idxOf k] = k := List.getElem_idxOf h1
  have h3 : ¬ (l.map Chg.key).idxOf k < i := fun hl => hb _ hl (by rw [← e _ (by simpa using h1), nth_eq _ _ h1]; exact h2)
  have h4 : ¬ i < (l.map Chg.key).idxOf k := fun hl => by
    have := List.not_of_lt_findIdx (p := (· == k)) (xs := l.map Chg.key) hl
    have e' := e i hi
    rw [nth_eq _ i (by simpa using hi)] at e'
    rw [h] at e'
    simp at this
    exact this (by simpa using e')
  omega
def putL (xs : List (Int × Int)) (k : Int) (s : Sd) : List (Int × Int) := if s.is then xs ++ [(k, s.v)] else xs
def chL (xs : List Chg) (k : Int) (a b : Sd) : List Chg := if a = b then xs else xs ++ [mkC k a b]
end Go.Proofs.Ythpnplebcmijnaa

-- P p_w.txt
open Go Go.AL Go.RowKit Go.Shelf
namespace Go.Proofs.Ythpnplebcmijnaa
set_option maxRecDepth 20000

theorem sorts12 (m : Nat) : AnyZI.SortsIn Try.prog Try.sorted47_ren Fence.wide m :=
  ⟨fun blk off cap ss W hH hblk hsz => callsIn_wide.2 (Try.slices_Sort_int blk off cap ss W hH hblk hsz), fun p cap W => callsIn_wide.2 (Try.slices_Sort_int_none p cap W)⟩
abbrev MP (es : List (List Int × Sum CD (List CD))) : CD := .mp (.one .i64) es
theorem k48 (es : List (List Int × Sum CD (List CD))) : FnV Try.prog 20 [.c (MP es)] 25 52 [MP es] := FnV_keys (by kernel_rfl) _ es (fun mb w => AnyZI.keys_in Try.keys48 Fence.wide 5 trivial rfl mb w)
theorem k49 (es : List (List Int × Sum CD (List CD))) : FnV Try.prog 21 [.c (MP es)] 26 59 [MP es] := FnV_keys (by kernel_rfl) _ es (fun mb w => AnyZI.keys_in Try.keys49 Fence.wide 5 trivial rfl mb w)
theorem k50 (es : List (List Int × Sum CD (List CD))) : FnV Try.prog 22 [.c (MP es)] 27 43 [MP es] := FnV_keys (by kernel_rfl) _ es (fun mb w => AnyZI.keys_in Try.keys50 Fence.wide 5 trivial rfl mb w)
def sortK (es : List (List Int × Sum CD (List CD))) : List Int := (keysI es).mergeSort fun x y => decide (x ≤ y)
theorem s53 (q : Nat) (es : List (List Int × Sum CD (List CD))) (hnd : (es.map Prod.fst).Nodup) (hl : es.length ≤ 1000000) : FnW Try.prog 19 [.fn 25 [.ptr q 0]] [(q, .box 52 [.c (MP es)])] [.c (Row (sortK es))] [] [] :=
  FnW_keys q Try.sorted47 (by kernel_rfl) (sorts12 _) (enters_of Try.func24 (by kernel_rfl) rfl) 25 (enters_of Try.func25 (by kernel_rfl) rfl) Try.underlying3 52 es hnd hl fun w Bm b nn D0 h1 h2 h3 => AnyZI.keys_gives (ρ := Try.keys48_ren) { Try.keys48 with } Fence.wide 2 trivial rfl (by omega) Bm b nn D0 w h1 h2 h3
theorem s54 (q : Nat) (es : List (List Int × Sum CD (List CD))) (hnd : (es.map Prod.fst).Nodup) (hl : es.length ≤ 1000000) : FnW Try.prog 19 [.fn 26 [.ptr q 0]] [(q, .box 59 [.c (MP es)])] [.c (Row (sortK es))] [] [] :=
  FnW_keys q Try.sorted47 (by kernel_rfl) (sorts12 _) (enters_of Try.func24 (by kernel_rfl) rfl) 26 (enters_of Try.func26 (by kernel_rfl) rfl) Try.underlying3 59 es hnd hl fun w Bm b nn D0 h1 h2 h3 => AnyZI.keys_gives (ρ := Try.keys49_ren) { Try.keys49 with } Fence.wide 2 trivial rfl (by omega) Bm b nn D0 w h1 h2 h3
theorem s55 (q : Nat) (es : List (List Int × Sum CD (List CD))) (hnd : (es.map Prod.fst).Nodup) (hl : es.length ≤ 1000000) : FnW Try.prog 19 [.fn 27 [.ptr q 0]] [(q, .box 43 [.c (MP es)])] [.c (Row (sortK es))] [] [] :=
  FnW_keys q Try.sorted47 (by kernel_rfl) (sorts12 _) (enters_of Try.func24 (by kernel_rfl) rfl) 27 (enters_of Try.func27 (by kernel_rfl) rfl) Try.underlying3 43 es hnd hl fun w Bm b nn D0 h1 h2 h3 => AnyZI.keys_gives (ρ := Try.keys50_ren) { Try.keys50 with } Fence.wide 2 trivial rfl (by omega) Bm b nn D0 w h1 h2 h3

/-! ### lists of keys, ascending -/
theorem ins_mem (n x : Int) : ∀ l : List Int, x ∈ ins n l ↔ x = n ∨ x ∈ l
  | [] => by simp [ins]
  | y :: r => by
    have ih := ins_mem n x r
    unfold ins
    split
    · simp only [List.mem_cons, ih]
      constructor
      · rintro (h | h | h) <;> simp [h]
      · rintro (h | h | h) <;> simp [h]
    · split
      · rename_i h; subst h; simp
      · simp
theorem ins_pw (n : Int) : ∀ {l : List Int}, l.Pairwise (· < ·) → (ins n l).Pairwise (· < ·)
  | [], _ => by simp [ins]
  | y :: r, h => by
    rw [List.pairwise_cons] at h
    unfold ins
    split
    · rename_i hy
      rw [List.pairwise_cons]
      refine ⟨fun z hz => ?_, ins_pw n h.2⟩
      rcases (ins_mem n z r).1 hz with rfl | hz
      · exact hy
      · exact h.1 z hz
    · split
      · rw [List.pairwise_cons]; exact h
      · rw [List.pairwise_cons, List.pairwise_cons]
        refine ⟨fun z hz => ?_, h.1, h.2⟩
        rcases List.mem_cons.1 hz with rfl | hz
        · omega
        · have := h.1 z hz; omega
def insAll (l : List Int) : List Int := l.foldl (fun acc k => ins k acc) []
theorem insAll_snoc (l : List Int) (k : Int) : insAll (l ++ [k]) = ins k (insAll l) := by simp [insAll]
theorem insAll_pw (l : List Int) : (insAll l).Pairwise (· < ·) := by
  have key : ∀ (l acc : List Int), acc.Pairwise (· < ·) → (l.foldl (fun acc k => ins k acc) acc).Pairwise (· < ·) := by
    intro l
    induction l with
    | nil => intro acc h; exact h
    | cons k r ih => intro acc h; exact ih _ (ins_pw k h)
  exact key l [] List.Pairwise.nil
theorem insAll_mem (l : List Int) (x : Int) : x ∈ insAll l ↔ x ∈ l := by
  have key : ∀ (l acc : List Int), x ∈ l.foldl (fun acc k => ins k acc) acc ↔ x ∈ acc ∨ x ∈ l := by
    intro l
    induction l with
    | nil => intro acc; simp
    | cons k r ih =>
      intro acc
      rw [List.foldl_cons, ih, ins_mem]
      simp only [List.mem_cons]
      constructor
      · rintro ((h | h) | h) <;> simp [h]
      · rintro (h | h | h) <;> simp [h]
  have := key l []
  unfold insAll
  rw [this]; simp
theorem pw_ext : ∀ {a b : List Int}, a.Pairwise (· < ·) → b.Pairwise (· < ·) → (∀ x, x ∈ a ↔ x ∈ b) → a = b
  | [], [], _, _, _ => rfl
  | [], y :: b, _, _, h => absurd ((h y).2 (by simp)) (by simp)
  | x :: a, [], _, _, h => absurd ((h x).1 (by simp)) (by simp)
  | x :: a, y :: b, ha, hb, h => by
    rw [List.pairwise_cons] at ha hb
    have h1 := (h x).1 (by simp)
    have h2 := (h y).2 (by simp)
    have e : x = y := by
      rcases List.mem_cons.1 h1 with e | h1
      · exact e
      · rcases List.mem_cons.1 h2 with e | h2
        · exact e.symm
        · have := ha.1 y h2; have := hb.1 x h1; omega
    subst e
    congr 1
    refine pw_ext ha.2 hb.2 fun z => ⟨fun hz => ?_, fun hz => ?_⟩
    · rcases List.mem_cons.1 ((h z).1 (List.mem_cons_of_mem _ hz)) with e | h'
      · have := ha.1 z hz; omega
      · exact h'
    · rcases List.mem_cons.1 ((h z).2 (List.mem_cons_of_mem _ hz)) with e | h'
      · have := hb.1 z hz; omega
      · exact h'
theorem sortK_eq {es : List (List Int × Sum CD (List CD))} (hnd : (keysI es).Nodup) {l : List Int} (h : ∀ x, x ∈ keysI es ↔ x ∈ l) : sortK es = insAll l := by
  refine pw_ext ?_ (insAll_pw l) fun x => ?_
  · have h1 : (sortK es).Pairwise (fun x y => decide (x ≤ y) = true) := List.pairwise_mergeSort (by simp; omega) (by simp; omega) _
    have h2 : (sortK es).Nodup := (List.mergeSort_perm _ _).nodup_iff.2 hnd
    have h3 := h1.and h2
    refine h3.imp fun {a b} hab => ?_
    have := hab.1
    simp only [decide_eq_true_eq] at this
    have := hab.2
    omega
  · rw [insAll_mem, ← h]
    exact (List.mergeSort_perm _ _).mem_iff
/-! ### maps over such keys -/
def idM (ks : List Int) : List (List Int × Sum CD (List CD)) := ks.map fun n => ([n], .inl (.B true))
theorem idM_set (n : Int) : ∀ ks : List Int, mset (idM ks) [n] (.inl (.sc (.bool true))) = idM (if n ∈ ks then ks else ks ++ [n])
  | [] => rfl
  | m :: r => by
    have ih := idM_set n r
    simp only [idM, List.map_cons, mset] at ih ⊢
    by_cases h : n = m
    · simp [h]
    · have hne : ¬ [n] = [m] := fun e => h (by simpa using e)
      rw [if_neg hne, ih]
      by_cases h2 : n ∈ r <;> simp [h, h2]
theorem idM_keys (ks : List Int) : keysI (idM ks) = ks := by
  unfold keysI idM; rw [List.map_map]; simp [Function.comp_def]
theorem idM_nd {ks : List Int} (h : ks.Nodup) : ((idM ks).map Prod.fst).Nodup := by
  unfold idM
  rw [List.map_map, List.nodup_iff_pairwise_ne, List.pairwise_map]
  rw [List.nodup_iff_pairwise_ne] at h
  exact h.imp fun hne e => hne (by simpa using e)
abbrev Tbs (ts : List (List (List Int × Sum CD (List CD)))) : CD := .sl 1 (ts.map fun es => [MP es])
def allK (ts : List (List (List Int × Sum CD (List CD)))) : List Int := ts.flatMap keysI
theorem allK_succ (ts : List (List (List Int × Sum CD (List CD)))) (i : Nat) (h : i < ts.length) : allK (ts.take (i + 1)) = allK (ts.take i) ++ keysI (nth ts i) := by
  rw [List.take_succ_eq_append_getElem h]
  unfold allK
  rw [List.flatMap_append, nth_eq ts i h]
  simp
theorem nodup_len : ∀ {ks l : List Int}, ks.Nodup → (∀ x ∈ ks, x ∈ l) → ks.length ≤ l.length
  | [], l, _, _ => by simp
  | k :: r, l, h, hs => by
    rw [List.nodup_cons] at h
    have hk := hs k (by simp)
    have h1 : r.length ≤ (l.erase k).length := nodup_len h.2 fun x hx => by
      have hne : x ≠ k := fun e => h.1 (e ▸ hx)
      exact (List.mem_erase_of_ne hne).2 (hs x (by simp [hx]))
    have h2 := List.length_erase_of_mem hk
    have h3 : 0 < l.length := List.length_pos_of_mem hk
    simp only [List.length_cons]
    omega
structure KS where
  (ks : List Int) (left : List (List Int × Sum CD (List CD))) (cur : Option (List Int × Sum CD (List CD)))
theorem idM_len (ks : List Int) : (idM ks).length = ks.length := by simp [idM]
set_option maxHeartbeats 1000000 in
theorem f32 (ts : List (List (List Int × Sum CD (List CD)))) (hlen : (allK ts).length ≤ 1000000) : FnR Try.prog 13 [.c (Tbs ts)] [.c (Row (insAll (allK ts)))] := by
  refine FnR_len (pre := []) (post := []) (fnCode_callB code13) fun hl => ?_
  simp only [List.length_map, maxLen] at hl
  refine fn_walk code13 (by simp) ?_
  (repeat' (first | refine NextAt.mk (fun hc => ?_) (fun pre n v post hc hkey => ?_) | refine Sni.mk (fun hc => ?_) ?_ | refine AW_seq ?_ | refine AW_block ?_ | ((first | refine AW_reg ?_ | refine AW_cond ?_ | refine AW_skip ?_ | refine AW_exit ?_ | refine AW_ret ?_ | refine AW_regD (by kernel_rfl) ?_ | refine AW_regX (by kernel_rfl) ?_ | refine CallAtG.t (Eq.refl true) ?_ | refine CallAtG.f (Eq.refl false) ?_); try simp (disch := omega) only [go_sem, Nat.reduceLT, Nat.reduceAdd, Nat.reduceSub, Nat.reduceMul, Nat.reduceMod, Nat.reduceDiv, Nat.reduceBEq, Nat.reduceEqDiff, Nat.reduceLeDiff, reduceCtorEq, ↓reduceIte, beq_dec, Int.reduceToNat, Int.reduceLT, Int.reduceLE, Int.reduceAdd, Int.reduceSub, Int.reduceMul, Int.reduceEq, Int.reduceNeg, Int.reduceNe, Int.toNat_natCast, IntKind.signed, IntKind.bits, Int.reducePow, Nat.reducePow]) | refine And.intro (fun hc => (?_ : AW _ _ _ _)) (fun hc => (?_ : AW _ _ _ _)) | simp (disch := omega) only [go_sem, Nat.reduceLT, Nat.reduceAdd, Nat.reduceSub, Nat.reduceMul, Nat.reduceMod, Nat.reduceDiv, Nat.reduceBEq, Nat.reduceEqDiff, Nat.reduceLeDiff, reduceCtorEq, ↓reduceIte, beq_dec, Int.reduceToNat, Int.reduceLT, Int.reduceLE, Int.reduceAdd, Int.reduceSub, Int.reduceMul, Int.reduceEq, Int.reduceNeg, Int.reduceNe, Int.toNat_natCast, IntKind.signed, IntKind.bits, Int.reducePow, Nat.reducePow] | (refine And.intro ?_ ?_; focus (first | (intros; omega) | (intros; simp_all; done))) | refine And.intro (?_ : CallAt _ _ _ _ _ _ _ _) ?_ | refine And.intro (?_ : CallAt _ _ _ _ _ _ _ _ ∧ _) ?_ | fail))
  refine AW_loopK [3, 8, 9] [5, 6, 10, 11, 12, 13, 14, 15, 16, 17, 18, 19, 20, 21, 22] (fun p : Nat × List Int => p.1 ≤ ts.length ∧ p.2.Nodup ∧ ∀ x, x ∈ p.2 ↔ x ∈ allK (ts.take p.1)) (fun p => [(10, .I p.1)]) (fun p => [(7, .map (.one .i64) (idM p.2))]) (fun p => ts.length - p.1) (0, []) ⟨by simp, by simp, by simp [allK]⟩ ?_ ?_
  · simp (disch := omega) only [go_sem, Nat.reduceLT, Nat.reduceAdd, Nat.reduceSub, Nat.reduceMul, Nat.reduceMod, Nat.reduceDiv, Nat.reduceBEq, Nat.reduceEqDiff, Nat.reduceLeDiff, reduceCtorEq, ↓reduceIte, beq_dec, Int.reduceToNat, Int.reduceLT, Int.reduceLE, Int.reduceAdd, Int.reduceSub, Int.reduceMul, Int.reduceEq, Int.reduceNeg, Int.reduceNe, Int.toNat_natCast, IntKind.signed, IntKind.bits, Int.reducePow, Nat.reducePow, Int.natCast_zero, idM, List.map_nil]
  · rintro ⟨i, ks⟩ ⟨hi, hnd, hm⟩
    simp only at hi hnd hm
    (repeat' (first | refine NextAt.mk (fun hc => ?_) (fun pre n v post hc hkey => ?_) | refine Sni.mk (fun hc => ?_) ?_ | refine AW_seq ?_ | refine AW_block ?_ | ((first | refine AW_reg ?_ | refine AW_cond ?_ | refine AW_skip ?_ | refine AW_exit ?_ | refine AW_ret ?_ | refine AW_regD (by kernel_rfl) ?_ | refine AW_regX (by kernel_rfl) ?_ | refine CallAtG.t (Eq.refl true) ?_ | refine CallAtG.f (Eq.refl false) ?_); try simp (disch := omega) only [go_sem, Nat.reduceLT, Nat.reduceAdd, Nat.reduceSub, Nat.reduceMul, Nat.reduceMod, Nat.reduceDiv, Nat.reduceBEq, Nat.reduceEqDiff, Nat.reduceLeDiff, reduceCtorEq, ↓reduceIte, beq_dec, Int.reduceToNat, Int.reduceLT, Int.reduceLE, Int.reduceAdd, Int.reduceSub, Int.reduceMul, Int.reduceEq, Int.reduceNeg, Int.reduceNe, Int.toNat_natCast, IntKind.signed, IntKind.bits, Int.reducePow, Nat.reducePow, getD_map (fun es => [MP es])]) | refine And.intro (fun hc => (?_ : AW _ _ _ _)) (fun hc => (?_ : AW _ _ _ _)) | simp (disch := omega) only [go_sem, Nat.reduceLT, Nat.reduceAdd, Nat.reduceSub, Nat.reduceMul, Nat.reduceMod, Nat.reduceDiv, Nat.reduceBEq, Nat.reduceEqDiff, Nat.reduceLeDiff, reduceCtorEq, ↓reduceIte, beq_dec, Int.reduceToNat, Int.reduceLT, Int.reduceLE, Int.reduceAdd, Int.reduceSub, Int.reduceMul, Int.reduceEq, Int.reduceNeg, Int.reduceNe, Int.toNat_natCast, IntKind.signed, IntKind.bits, Int.reducePow, Nat.reducePow, getD_map (fun es => [MP es])] | (refine And.intro ?_ ?_; focus (first | (intros; omega) | (intros; simp_all; done))) | refine And.intro (?_ : CallAt _ _ _ _ _ _ _ _) ?_ | refine And.intro (?_ : CallAt _ _ _ _ _ _ _ _ ∧ _) ?_ | fail))
    · refine AW_loopK [3, 8, 9, 10, 15] [6, 16, 17, 18, 19, 20, 21] (fun p : KS => p.ks.Nodup ∧ ∀ x, (x ∈ p.ks ∨ x ∈ keysI p.left) ↔ (x ∈ ks ∨ x ∈ keysI (nth ts i))) (fun p => []) (fun p => [(7, .map (.one .i64) (idM p.ks)), (15, .iter (.one .i64) p.left p.cur)]) (fun p => p.left.length) ⟨ks, nth ts i, none⟩ ⟨hnd, fun x => Iff.rfl⟩ ?_ ?_
      · simp (disch := omega) only [go_sem, Nat.reduceLT, Nat.reduceAdd, Nat.reduceSub, Nat.reduceMul, Nat.reduceMod, Nat.reduceDiv, Nat.reduceBEq, Nat.reduceEqDiff, Nat.reduceLeDiff, reduceCtorEq, ↓reduceIte, beq_dec, Int.reduceToNat, Int.reduceLT, Int.reduceLE, Int.reduceAdd, Int.reduceSub, Int.reduceMul, Int.reduceEq, Int.reduceNeg, Int.reduceNe, Int.toNat_natCast, IntKind.signed, IntKind.bits, Int.reducePow, Nat.reducePow]
      · rintro ⟨ks', left, cur⟩ ⟨hnd', hm'⟩
        simp only at hnd' hm'
        (repeat' (first | refine NextAt.mk (fun hc => ?_) (fun pre n v post hc hkey => ?_) | refine Sni.mk (fun hc => ?_) ?_ | refine AW_seq ?_ | refine AW_block ?_ | ((first | refine AW_reg ?_ | refine AW_cond ?_ | refine AW_skip ?_ | refine AW_exit ?_ | refine AW_ret ?_ | refine AW_regD (by kernel_rfl) ?_ | refine AW_regX (by kernel_rfl) ?_ | refine CallAtG.t (Eq.refl true) ?_ | refine CallAtG.f (Eq.refl false) ?_); try simp (disch := omega) only [go_sem, Nat.reduceLT, Nat.reduceAdd, Nat.reduceSub, Nat.reduceMul, Nat.reduceMod, Nat.reduceDiv, Nat.reduceBEq, Nat.reduceEqDiff, Nat.reduceLeDiff, reduceCtorEq, ↓reduceIte, beq_dec, Int.reduceToNat, Int.reduceLT, Int.reduceLE, Int.reduceAdd, Int.reduceSub, Int.reduceMul, Int.reduceEq, Int.reduceNeg, Int.reduceNe, Int.toNat_natCast, IntKind.signed, IntKind.bits, Int.reducePow, Nat.reducePow]) | refine And.intro (fun hc => (?_ : AW _ _ _ _)) (fun hc => (?_ : AW _ _ _ _)) | simp (disch := omega) only [go_sem, Nat.reduceLT, Nat.reduceAdd, Nat.reduceSub, Nat.reduceMul, Nat.reduceMod, Nat.reduceDiv, Nat.reduceBEq, Nat.reduceEqDiff, Nat.reduceLeDiff, reduceCtorEq, ↓reduceIte, beq_dec, Int.reduceToNat, Int.reduceLT, Int.reduceLE, Int.reduceAdd, Int.reduceSub, Int.reduceMul, Int.reduceEq, Int.reduceNeg, Int.reduceNe, Int.toNat_natCast, IntKind.signed, IntKind.bits, Int.reducePow, Nat.reducePow] | (refine And.intro ?_ ?_; focus (first | (intros; omega) | (intros; simp_all; done))) | refine And.intro (?_ : CallAt _ _ _ _ _ _ _ _) ?_ | refine And.intro (?_ : CallAt _ _ _ _ _ _ _ _ ∧ _) ?_ | fail))
        · subst hc
          refine .mk (i + 1, ks') ⟨by simp only []; omega, hnd', fun x => ?_⟩ (by simp only []; omega) ?_
          · have h1 := hm' x
            simp only [keysI, List.map_nil, List.not_mem_nil, or_false] at h1
            rw [h1, allK_succ ts i (by omega), List.mem_append, hm x]
            rfl
          · simp (disch := omega) only [go_sem, Nat.reduceLT, Nat.reduceAdd, Nat.reduceSub, Nat.reduceMul, Nat.reduceMod, Nat.reduceDiv, Nat.reduceBEq, Nat.reduceEqDiff, Nat.reduceLeDiff, reduceCtorEq, ↓reduceIte, beq_dec, Int.reduceToNat, Int.reduceLT, Int.reduceLE, Int.reduceAdd, Int.reduceSub, Int.reduceMul, Int.reduceEq, Int.reduceNeg, Int.reduceNe, Int.toNat_natCast, IntKind.signed, IntKind.bits, Int.reducePow, Nat.reducePow, Int.natCast_add, Int.natCast_one]
        · subst hc
          refine .mk ⟨if n.headD 0 ∈ ks' then ks' else ks' ++ [n.headD 0], pre ++ post, some (n, v)⟩ ⟨?_, fun x => ?_⟩ (by simp) ?_
          · simp only []
            split
            · exact hnd'
            · rename_i hni
              rw [List.nodup_append]
              refine ⟨hnd', by simp, fun a ha b hb e => ?_⟩
              rw [e, List.mem_singleton.1 hb] at ha; exact hni ha
          · rw [← hm' x]
            simp only []
            have e1 : x ∈ keysI (pre ++ (n, v) :: post) ↔ x = n.headD 0 ∨ x ∈ keysI (pre ++ post) := by
              unfold keysI
              simp only [List.map_append, List.map_cons, List.mem_append, List.mem_cons]
              exact or_left_comm
            have e2 : x ∈ (if n.headD 0 ∈ ks' then ks' else ks' ++ [n.headD 0]) ↔ x ∈ ks' ∨ x = n.headD 0 := by
              split
              · rename_i h
                constructor
                · exact .inl
                · rintro (h' | rfl)
                  · exact h'
                  · exact h
              · simp
            rw [e1, e2, or_assoc]
          · rw [idM_set]
            simp (disch := omega) only [go_sem, Nat.reduceLT, Nat.reduceAdd, Nat.reduceSub, Nat.reduceMul, Nat.reduceMod, Nat.reduceDiv, Nat.reduceBEq, Nat.reduceEqDiff, Nat.reduceLeDiff, reduceCtorEq, ↓reduceIte, beq_dec, Int.reduceToNat, Int.reduceLT, Int.reduceLE, Int.reduceAdd, Int.reduceSub, Int.reduceMul, Int.reduceEq, Int.reduceNeg, Int.reduceNe, Int.toNat_natCast, IntKind.signed, IntKind.bits, Int.reducePow, Nat.reducePow]
    · have hil : i = ts.length := by omega
      subst hil
      refine CallAt.frz [7] ?_
      simp (disch := omega) only [go_sem, Nat.reduceLT, Nat.reduceAdd, Nat.reduceSub, Nat.reduceMul, Nat.reduceMod, Nat.reduceDiv, Nat.reduceBEq, Nat.reduceEqDiff, Nat.reduceLeDiff, reduceCtorEq, ↓reduceIte, beq_dec, Int.reduceToNat, Int.reduceLT, Int.reduceLE, Int.reduceAdd, Int.reduceSub, Int.reduceMul, Int.reduceEq, Int.reduceNeg, Int.reduceNe, Int.toNat_natCast, IntKind.signed, IntKind.bits, Int.reducePow, Nat.reducePow]
      refine CallAt.fb _ _ _ (k49 (idM ks)) (by rfl) (one_mp _ _) ?_
      have hnd2 := idM_nd hnd
      rw [List.take_length] at hm
      have hkl : ks.length ≤ 1000000 := Nat.le_trans (nodup_len hnd fun x hx => (hm x).1 hx) hlen
      have g := s54 24 (idM ks) hnd2 (by rw [idM_len]; exact hkl)
      rw [sortK_eq (l := allK ts) (by rw [idM_keys]; exact hnd) (by rw [idM_keys]; exact hm)] at g
      (repeat' (first | refine NextAt.mk (fun hc => ?_) (fun pre n v post hc hkey => ?_) | refine Sni.mk (fun hc => ?_) ?_ | refine AW_seq ?_ | refine AW_block ?_ | ((first | refine AW_reg ?_ | refine AW_cond ?_ | refine AW_skip ?_ | refine AW_exit ?_ | refine AW_ret ?_ | refine AW_regD (by kernel_rfl) ?_ | refine AW_regX (by kernel_rfl) ?_ | refine CallAt.mkW (g ..) (by rfl) (by simp (disch := omega) only [go_sem, Nat.reduceLT, Nat.reduceAdd, Nat.reduceSub, Nat.reduceMul, Nat.reduceMod, Nat.reduceDiv, Nat.reduceBEq, Nat.reduceEqDiff, Nat.reduceLeDiff, reduceCtorEq, ↓reduceIte, beq_dec, Int.reduceToNat, Int.reduceLT, Int.reduceLE, Int.reduceAdd, Int.reduceSub, Int.reduceMul, Int.reduceEq, Int.reduceNeg, Int.reduceNe, Int.toNat_natCast, IntKind.signed, IntKind.bits, Int.reducePow, Nat.reducePow]) (by rfl) (by rfl) (by first | (intro h; cases h; done) | (intro _; simp [RV.flatP, CD.flatP, flatOb, AO.flatP]; done)) ?_ | refine CallAtG.t (Eq.refl true) ?_ | refine CallAtG.f (Eq.refl false) ?_); try simp (disch := omega) only [go_sem, Nat.reduceLT, Nat.reduceAdd, Nat.reduceSub, Nat.reduceMul, Nat.reduceMod, Nat.reduceDiv, Nat.reduceBEq, Nat.reduceEqDiff, Nat.reduceLeDiff, reduceCtorEq, ↓reduceIte, beq_dec, Int.reduceToNat, Int.reduceLT, Int.reduceLE, Int.reduceAdd, Int.reduceSub, Int.reduceMul, Int.reduceEq, Int.reduceNeg, Int.reduceNe, Int.toNat_natCast, IntKind.signed, IntKind.bits, Int.reducePow, Nat.reducePow]) | refine And.intro (fun hc => (?_ : AW _ _ _ _)) (fun hc => (?_ : AW _ _ _ _)) | simp (disch := omega) only [go_sem, Nat.reduceLT, Nat.reduceAdd, Nat.reduceSub, Nat.reduceMul, Nat.reduceMod, Nat.reduceDiv, Nat.reduceBEq, Nat.reduceEqDiff, Nat.reduceLeDiff, reduceCtorEq, ↓reduceIte, beq_dec, Int.reduceToNat, Int.reduceLT, Int.reduceLE, Int.reduceAdd, Int.reduceSub, Int.reduceMul, Int.reduceEq, Int.reduceNeg, Int.reduceNe, Int.toNat_natCast, IntKind.signed, IntKind.bits, Int.reducePow, Nat.reducePow] | (refine And.intro ?_ ?_; focus (first | (intros; omega) | (intros; simp_all; done))) | refine And.intro (?_ : CallAt _ _ _ _ _ _ _ _) ?_ | refine And.intro (?_ : CallAt _ _ _ _ _ _ _ _ ∧ _) ?_ | fail))
end Go.Proofs.Ythpnplebcmijnaa

