/-
  Lemmas for the proof: no statement of its own.
-/
import Derived.Test.YtciglfmfemidnaaWalkD
set_option linter.unusedVariables false
set_option linter.unusedSimpArgs false
-- P p_30s.txt
open Go Go.AL Go.RowKit
namespace Go.Proofs.Ytciglfmfemidnaa
set_option maxRecDepth 20000

/-! ### a list turned in place -/
def revS (l : List Int) (k : Nat) : List Int := (List.range l.length).map fun p => if p < k ∨ l.length - k ≤ p then nth l (l.length - 1 - p) else nth l p
theorem revS_len (l : List Int) (k : Nat) : (revS l k).length = l.length := by simp [revS]
theorem revS_nth {l : List Int} {k p : Nat} (h : p < l.length) : nth (revS l k) p = if p < k ∨ l.length - k ≤ p then nth l (l.length - 1 - p) else nth l p := by
  rw [nth_eq _ p (by rw [revS_len]; exact h)]; simp [revS]
theorem revS_zero (l : List Int) : revS l 0 = l := nth_ext (by rw [revS_len]) fun p hp => by
  rw [revS_len] at hp
  rw [revS_nth hp, if_neg (by omega)]
theorem revS_full {l : List Int} {k : Nat} (h : l.length ≤ 2 * k + 1) : revS l k = l.reverse := nth_ext (by rw [revS_len]; simp) fun p hp => by
  rw [revS_len] at hp
  rw [revS_nth hp]
  have hr : nth l.reverse p = nth l (l.length - 1 - p) := by
    rw [nth_eq _ p (by simpa using hp), nth_eq l _ (by omega), List.getElem_reverse]
  rw [hr]
  split
  · rfl
  · congr 1; omega
theorem revS_step {l : List Int} {k : Nat} (h : 2 * k + 1 < l.length) : ((revS l k).set k (nth l (l.length - 1 - k))).set (l.length - 1 - k) (nth l k) = revS l (k + 1) := nth_ext (by simp [revS_len]) fun p hp => by
  have hp : p < l.length := by simpa [revS_len] using hp
  rw [set_nth _ _ _ _ (by simp [revS_len]; omega), set_nth _ _ _ _ (by rw [revS_len]; omega), revS_nth hp, revS_nth hp]
  by_cases e1 : p = l.length - 1 - k
  · subst e1
    rw [if_pos rfl, if_pos (by omega)]
    congr 1; omega
  · rw [if_neg e1]
    by_cases e2 : p = k
    · subst e2
      rw [if_pos rfl, if_pos (by omega)]
    · rw [if_neg e2]
      by_cases e3 : p < k ∨ l.length - k ≤ p
      · rw [if_pos e3, if_pos (by omega)]
      · rw [if_neg e3, if_neg (by omega)]
theorem v38 (l : List Int) (hl : l.length ≤ 1000000) : FnW Try.prog 16 [.own 1000005] [(1000005, .arr 3 1 (l.map fun x => [CD.I x]))] [] [(1000005, .arr 3 1 (l.reverse.map fun x => [CD.I x]))] [1000005] := by
  refine fn_walkW code16 (by simp) (by rfl) ?_
  (repeat' (first | refine NextAt.mk (fun hc => ?_) (fun pre n v post hc hkey => ?_) | refine Sni.mk (fun hc => ?_) ?_ | refine Both.mk ?_ ?_ | refine AW_seq ?_ | refine AW_block ?_ | ((first | refine AW_reg ?_ | refine AW_cond ?_ | refine AW_skip ?_ | refine AW_exit ?_ | refine AW_ret ?_ | refine AW_regD (by kernel_rfl) ?_ | refine AW_regX (by kernel_rfl) ?_ | refine CallAtG.t (Eq.refl true) ?_ | refine CallAtG.f (Eq.refl false) ?_); try simp (disch := omega) only [go_sem, seval, reduceCtorEq, ↓reduceIte, beq_dec, Int.toNat_natCast, IntKind.signed, IntKind.bits]) | refine And.intro (fun hc => (?_ : AW _ _ _ _)) (fun hc => (?_ : AW _ _ _ _)) | simp (disch := omega) only [go_sem, seval, reduceCtorEq, ↓reduceIte, beq_dec, Int.toNat_natCast, IntKind.signed, IntKind.bits] | (refine And.intro ?_ ?_; focus (first | (intros; omega) | (intros; simp_all; done))) | refine And.intro (?_ : CallAt _ _ _ _ _ _ _ _) ?_ | refine And.intro (?_ : CallAt _ _ _ _ _ _ _ _ ∧ _) ?_ | refine And.intro (?_ : AW _ _ _ _) ?_ | fail))
  refine AW_loopK [0] [2, 3, 7, 8, 9, 10, 11, 12, 13, 14, 15, 16, 17, 18, 19, 20, 21, 22, 23, 24, 25, 26, 27] (fun k : Nat => 2 * k ≤ l.length + 1) (fun k => [(2, .I k), (3, .I ((l.length : Int) - 1 - k))]) (fun k => [(1000005, .arr 3 1 ((revS l k).map fun x => [CD.I x]))]) (fun k => l.length + 1 - k) 0 (by omega) ?_ ?_
  · simp (disch := omega) only [go_sem, seval, reduceCtorEq, ↓reduceIte, beq_dec, Int.toNat_natCast, IntKind.signed, IntKind.bits, Int.natCast_zero, revS_zero, Int.sub_zero]
  · rintro k hk
    have hrl := revS_len l k
    have htn : k < l.length → ((l.length : Int) - 1 - (k : Int)).toNat = l.length - 1 - k := fun h => by omega
    by_cases hkl : 2 * k + 1 < l.length
    case neg =>
      have hd : decide ((k : Int) < (l.length : Int) - 1 - (k : Int)) = false := decide_eq_false (by omega)
      have hf := revS_full (l := l) (k := k) (by omega)
      (repeat' (first | refine NextAt.mk (fun hc => ?_) (fun pre n v post hc hkey => ?_) | refine Sni.mk (fun hc => ?_) ?_ | refine Both.mk ?_ ?_ | refine AW_seq ?_ | refine AW_block ?_ | ((first | refine AW_reg ?_ | refine AW_cond ?_ | refine AW_skip ?_ | refine AW_exit ?_ | refine AW_ret ?_ | refine AW_regD (by kernel_rfl) ?_ | refine AW_regX (by kernel_rfl) ?_ | refine CallAtG.t (Eq.refl true) ?_ | refine CallAtG.f (Eq.refl false) ?_); try simp (disch := omega) only [go_sem, seval, reduceCtorEq, ↓reduceIte, beq_dec, Int.toNat_natCast, IntKind.signed, IntKind.bits, hd, hf]) | refine And.intro (fun hc => (?_ : AW _ _ _ _)) (fun hc => (?_ : AW _ _ _ _)) | simp (disch := omega) only [go_sem, seval, reduceCtorEq, ↓reduceIte, beq_dec, Int.toNat_natCast, IntKind.signed, IntKind.bits, hd, hf] | (refine And.intro ?_ ?_; focus (first | (intros; omega) | (intros; simp_all; done))) | refine And.intro (?_ : CallAt _ _ _ _ _ _ _ _) ?_ | refine And.intro (?_ : CallAt _ _ _ _ _ _ _ _ ∧ _) ?_ | refine And.intro (?_ : AW _ _ _ _) ?_ | fail))
    case pos =>
      have hd : decide ((k : Int) < (l.length : Int) - 1 - (k : Int)) = true := decide_eq_true (by omega)
      have e1 := revS_step hkl
      have n1 : nth (revS l k) k = nth l k := by rw [revS_nth (by omega), if_neg (by omega)]
      have n2 : nth (revS l k) (l.length - 1 - k) = nth l (l.length - 1 - k) := by rw [revS_nth (by omega), if_neg (by omega)]
      (repeat' (first | refine NextAt.mk (fun hc => ?_) (fun pre n v post hc hkey => ?_) | refine Sni.mk (fun hc => ?_) ?_ | refine Both.mk ?_ ?_ | refine AW_seq ?_ | refine AW_block ?_ | ((first | refine AW_reg ?_ | refine AW_cond ?_ | refine AW_skip ?_ | refine AW_exit ?_ | refine AW_ret ?_ | refine AW_regD (by kernel_rfl) ?_ | refine AW_regX (by kernel_rfl) ?_ | refine CallAtG.t (Eq.refl true) ?_ | refine CallAtG.f (Eq.refl false) ?_); try simp (disch := omega) only [go_sem, seval, reduceCtorEq, ↓reduceIte, beq_dec, Int.toNat_natCast, IntKind.signed, IntKind.bits, hd, getD_map (fun x : Int => [CD.I x]), hrl, htn (by omega), iset', n1, n2]) | refine And.intro (fun hc => (?_ : AW _ _ _ _)) (fun hc => (?_ : AW _ _ _ _)) | simp (disch := omega) only [go_sem, seval, reduceCtorEq, ↓reduceIte, beq_dec, Int.toNat_natCast, IntKind.signed, IntKind.bits, hd, getD_map (fun x : Int => [CD.I x]), hrl, htn (by omega), iset', n1, n2] | (refine And.intro ?_ ?_; focus (first | (intros; omega) | (intros; simp_all; done))) | refine And.intro (?_ : CallAt _ _ _ _ _ _ _ _) ?_ | refine And.intro (?_ : CallAt _ _ _ _ _ _ _ _ ∧ _) ?_ | refine And.intro (?_ : AW _ _ _ _) ?_ | fail))
      have hsl : ((revS l k).set k (nth l (l.length - 1 - k))).length = l.length := by simp [revS_len]
      refine And.intro ?_ ?_
      all_goals
        (repeat' (first | refine NextAt.mk (fun hc => ?_) (fun pre n v post hc hkey => ?_) | refine Sni.mk (fun hc => ?_) ?_ | refine Both.mk ?_ ?_ | refine AW_seq ?_ | refine AW_block ?_ | ((first | refine AW_reg ?_ | refine AW_cond ?_ | refine AW_skip ?_ | refine AW_exit ?_ | refine AW_ret ?_ | refine AW_regD (by kernel_rfl) ?_ | refine AW_regX (by kernel_rfl) ?_ | refine CallAtG.t (Eq.refl true) ?_ | refine CallAtG.f (Eq.refl false) ?_); try simp (disch := omega) only [go_sem, seval, reduceCtorEq, ↓reduceIte, beq_dec, Int.toNat_natCast, IntKind.signed, IntKind.bits, hsl]) | refine And.intro (fun hc => (?_ : AW _ _ _ _)) (fun hc => (?_ : AW _ _ _ _)) | simp (disch := omega) only [go_sem, seval, reduceCtorEq, ↓reduceIte, beq_dec, Int.toNat_natCast, IntKind.signed, IntKind.bits, hsl] | (refine And.intro ?_ ?_; focus (first | (intros; omega) | (intros; simp_all; done))) | refine And.intro (?_ : CallAt _ _ _ _ _ _ _ _) ?_ | refine And.intro (?_ : CallAt _ _ _ _ _ _ _ _ ∧ _) ?_ | refine And.intro (?_ : AW _ _ _ _) ?_ | fail))
        refine .mk (k + 1) (by omega) (by omega) ?_
        have e2 : (l.length : Int) - 1 - ((k : Int) + 1) = (l.length : Int) - 1 - (k : Int) - 1 := by omega
        simp (disch := omega) only [go_sem, seval, reduceCtorEq, ↓reduceIte, beq_dec, Int.toNat_natCast, IntKind.signed, IntKind.bits, Int.natCast_add, Int.natCast_one, getD_map (fun x : Int => [CD.I x]), hsl, iset', e1, e2]
theorem v19 (l : List Int) (hl : l.length ≤ 1000000) : FnR Try.prog 10 [.c (Row l)] [ORow l.reverse] := by
  have g96 := f96 l (by omega)
  have g := FnW.low (v38 l hl)
  have r5 : rn 1000005 = 5 := rfl
  simp only [renL, AV.ren, renOb, AO.ren, List.map_cons, List.map_nil, r5] at g
  refine fn_walk code10 (by simp) ?_
  (repeat' (first | refine NextAt.mk (fun hc => ?_) (fun pre n v post hc hkey => ?_) | refine Sni.mk (fun hc => ?_) ?_ | refine Both.mk ?_ ?_ | refine AW_seq ?_ | refine AW_block ?_ | ((first | refine AW_reg ?_ | refine AW_cond ?_ | refine AW_skip ?_ | refine AW_exit ?_ | refine AW_ret ?_ | refine AW_regD (by kernel_rfl) ?_ | refine AW_regX (by kernel_rfl) ?_ | refine CallAt.mkW (g ..) (by rfl) (by simp (disch := omega) only [go_sem, seval, reduceCtorEq, ↓reduceIte, beq_dec, Int.toNat_natCast, IntKind.signed, IntKind.bits]) (by rfl) (by rfl) (by first | (intro h; cases h; done) | (intro _; simp [RV.flatP, CD.flatP, flatOb, AO.flatP]; done)) ?_ | refine CallAtG.t (Eq.refl true) ?_ | refine CallAtG.f (Eq.refl false) ?_ | refine CallAt.mk _ (g96 ..) (by first | (intro h; cases h; done) | (intro _; repeat' (first | exact List.forall_mem_nil _ | trivial | refine List.forall_mem_cons.2 ⟨?_, ?_⟩)) | (intro _; simp [RV.flatP, CD.flatP]; done)) ?_ | refine CallAtG.mk _ (fun _ => g96 ..) ?_ | refine CallDS.mk _ (by simp [RV.data]) (fun _ => g96 ..) (by first | (intro h; cases h; done) | (intro _; repeat' (first | exact List.forall_mem_nil _ | trivial | refine List.forall_mem_cons.2 ⟨?_, ?_⟩)) | (intro _; simp [RV.flatP, CD.flatP]; done)) ?_); try simp (disch := omega) only [go_sem, seval, reduceCtorEq, ↓reduceIte, beq_dec, Int.toNat_natCast, IntKind.signed, IntKind.bits]) | refine And.intro (fun hc => (?_ : AW _ _ _ _)) (fun hc => (?_ : AW _ _ _ _)) | simp (disch := omega) only [go_sem, seval, reduceCtorEq, ↓reduceIte, beq_dec, Int.toNat_natCast, IntKind.signed, IntKind.bits] | (refine And.intro ?_ ?_; focus (first | (intros; omega) | (intros; simp_all; done))) | refine And.intro (?_ : CallAt _ _ _ _ _ _ _ _) ?_ | refine And.intro (?_ : CallAt _ _ _ _ _ _ _ _ ∧ _) ?_ | refine And.intro (?_ : AW _ _ _ _) ?_ | fail))
/-! ### changes between neighbours -/
def dif (r o : List Int) (i : Nat) : Nat := if decide (nth o (i - 1) ∈ r) = decide (nth o i ∈ r) then 0 else 1
def adjI (t : List (List Int)) (o : List Int) (i : Nat) : Nat → Nat
  | 0 => 0
  | m + 1 => adjI t o i m + dif (nth t m) o i
theorem adjI_le (t : List (List Int)) (o : List Int) (i : Nat) : ∀ m, adjI t o i m ≤ m
  | 0 => Nat.le_refl _
  | m + 1 => by
    have := adjI_le t o i m
    simp only [adjI, dif]
    split <;> omega
def adjL (t : List (List Int)) (o : List Int) (m : Nat) : List Int := (List.range m).map fun i => ((adjI t o (i + 1) t.length : Nat) : Int)
theorem adjL_len (t : List (List Int)) (o : List Int) (m : Nat) : (adjL t o m).length = m := by simp [adjL]
theorem adjL_succ (t : List (List Int)) (o : List Int) (m : Nat) : adjL t o (m + 1) = adjL t o m ++ [((adjI t o (m + 1) t.length : Nat) : Int)] := by simp [adjL, List.range_succ]
def adjV (n : Int) (t : List (List Int)) (o : List Int) : List Int := if runErr n t o = 0 then adjL t o (n.toNat - 1) else []
theorem ord_mem {n : Int} {o : List Int} (h : isOrd o n = true) (i : Nat) (hi : i < o.length) : 0 ≤ nth o i ∧ nth o i < n := by
  obtain ⟨h0, hp, hl⟩ := isOrd_iff.1 h
  have := hp.rg _ (nth_mem o i hi)
  omega
theorem inB_at {n : Nat} {r : List Int} {x : Int} (h : 0 ≤ x ∧ x < n) : nth (inB n r) x.toNat = decide (x ∈ r) := by
  rw [inB_nth (by omega), show ((x.toNat : Nat) : Int) = x by omega]
set_option maxHeartbeats 2000000 in
theorem v18 (n : Int) (t : List (List Int)) (o : List Int) (hl : o.length ≤ 1000000) : FnR Try.prog 13 [.I n, .c (Tab t), .c (Row o)] [ORow (adjV n t o), .c (.I (runErr n t o))] := by
  have g20 := w20 n t o hl
  refine fn_walk code13 (by simp) ?_
  unfold adjV
  by_cases hr : runErr n t o = 0
  case neg =>
    have hre : decide (runErr n t o = 0) = false := decide_eq_false hr
    simp only [if_neg hr]
    (repeat' (first | refine NextAt.mk (fun hc => ?_) (fun pre n v post hc hkey => ?_) | refine Sni.mk (fun hc => ?_) ?_ | refine Both.mk ?_ ?_ | refine AW_seq ?_ | refine AW_block ?_ | ((first | refine AW_reg ?_ | refine AW_cond ?_ | refine AW_skip ?_ | refine AW_exit ?_ | refine AW_ret ?_ | refine AW_regD (by kernel_rfl) ?_ | refine AW_regX (by kernel_rfl) ?_ | refine CallAtG.t (Eq.refl true) ?_ | refine CallAtG.f (Eq.refl false) ?_ | refine CallAt.mk _ (g20 ..) (by first | (intro h; cases h; done) | (intro _; repeat' (first | exact List.forall_mem_nil _ | trivial | refine List.forall_mem_cons.2 ⟨?_, ?_⟩)) | (intro _; simp [RV.flatP, CD.flatP, hre]; done)) ?_ | refine CallAtG.mk _ (fun _ => g20 ..) ?_ | refine CallDS.mk _ (by simp [RV.data]) (fun _ => g20 ..) (by first | (intro h; cases h; done) | (intro _; repeat' (first | exact List.forall_mem_nil _ | trivial | refine List.forall_mem_cons.2 ⟨?_, ?_⟩)) | (intro _; simp [RV.flatP, CD.flatP, hre]; done)) ?_); try simp (disch := omega) only [go_sem, seval, reduceCtorEq, ↓reduceIte, beq_dec, Int.toNat_natCast, IntKind.signed, IntKind.bits, hre]) | refine And.intro (fun hc => (?_ : AW _ _ _ _)) (fun hc => (?_ : AW _ _ _ _)) | simp (disch := omega) only [go_sem, seval, reduceCtorEq, ↓reduceIte, beq_dec, Int.toNat_natCast, IntKind.signed, IntKind.bits, hre] | (refine And.intro ?_ ?_; focus (first | (intros; omega) | (intros; simp_all; done))) | refine And.intro (?_ : CallAt _ _ _ _ _ _ _ _) ?_ | refine And.intro (?_ : CallAt _ _ _ _ _ _ _ _ ∧ _) ?_ | refine And.intro (?_ : AW _ _ _ _) ?_ | fail))
  case pos =>
    rw [hr] at g20 ⊢
    simp only [if_true]
    obtain ⟨hv, ho⟩ := runErr_zero.1 hr
    obtain ⟨h1, h2, h3, h4⟩ := valid_rows hv
    obtain ⟨q0, q1, q2⟩ := isOrd_iff.1 ho
    obtain ⟨m, rfl⟩ : ∃ m : Nat, n = m := ⟨n.toNat, by omega⟩
    have g35 := FnP.high (w35 m t ⟨h1, by omega⟩ (by omega) h4)
    simp only [renL, AV.ren, renOb, AO.ren, List.map_cons, List.map_nil, rh15, rh13, Int.toNat_natCast] at g35
    simp only [Int.toNat_natCast] at q2 ⊢
    (repeat' (first | refine NextAt.mk (fun hc => ?_) (fun pre n v post hc hkey => ?_) | refine Sni.mk (fun hc => ?_) ?_ | refine Both.mk ?_ ?_ | refine AW_seq ?_ | refine AW_block ?_ | ((first | refine AW_reg ?_ | refine AW_cond ?_ | refine AW_skip ?_ | refine AW_exit ?_ | refine AW_ret ?_ | refine AW_regD (by kernel_rfl) ?_ | refine AW_regX (by kernel_rfl) ?_ | refine CallAt.mkP (g35 ..) (by rfl) (by simp (disch := omega) only [go_sem, seval, reduceCtorEq, ↓reduceIte, beq_dec, Int.toNat_natCast, IntKind.signed, IntKind.bits]) (by rfl) (by rfl) (by first | (intro h; cases h; done) | (intro _; simp [RV.flatP, CD.flatP, flatOb, AO.flatP]; done)) ?_ | refine CallAtG.t (Eq.refl true) ?_ | refine CallAtG.f (Eq.refl false) ?_ | refine CallAt.mk _ (g20 ..) (by first | (intro h; cases h; done) | (intro _; repeat' (first | exact List.forall_mem_nil _ | trivial | refine List.forall_mem_cons.2 ⟨?_, ?_⟩)) | (intro _; simp [RV.flatP, CD.flatP]; done)) ?_ | refine CallAtG.mk _ (fun _ => g20 ..) ?_ | refine CallDS.mk _ (by simp [RV.data]) (fun _ => g20 ..) (by first | (intro h; cases h; done) | (intro _; repeat' (first | exact List.forall_mem_nil _ | trivial | refine List.forall_mem_cons.2 ⟨?_, ?_⟩)) | (intro _; simp [RV.flatP, CD.flatP]; done)) ?_); try simp (disch := omega) only [go_sem, seval, reduceCtorEq, ↓reduceIte, beq_dec, Int.toNat_natCast, IntKind.signed, IntKind.bits]) | refine And.intro (fun hc => (?_ : AW _ _ _ _)) (fun hc => (?_ : AW _ _ _ _)) | simp (disch := omega) only [go_sem, seval, reduceCtorEq, ↓reduceIte, beq_dec, Int.toNat_natCast, IntKind.signed, IntKind.bits] | (refine And.intro ?_ ?_; focus (first | (intros; omega) | (intros; simp_all; done))) | refine And.intro (?_ : CallAt _ _ _ _ _ _ _ _) ?_ | refine And.intro (?_ : CallAt _ _ _ _ _ _ _ _ ∧ _) ?_ | refine And.intro (?_ : AW _ _ _ _) ?_ | fail))
    refine AW_nil 11 900 3 1 (by rfl) ?_
    refine AW_loopK [0, 2, 10] [11, 12, 13, 15, 29, 30, 31, 32, 33, 34, 35, 36, 37, 38, 39, 40, 41, 42, 43, 44, 45, 46, 47, 48, 49, 50, 51, 52, 53, 54, 55, 56, 57, 58, 59, 60, 61, 62, 63, 64, 65] (fun i : Nat => i ≤ m - 1) (fun i => [(12, .I ((i : Int) + 1)), (11, .own 900)]) (fun i => [(900, .arr 3 1 ((adjL t o i).map fun x => [CD.I x]))]) (fun i => m - 1 - i) 0 (by omega) ?_ ?_
    · simp (disch := omega) only [go_sem, seval, reduceCtorEq, ↓reduceIte, beq_dec, Int.toNat_natCast, IntKind.signed, IntKind.bits, Int.natCast_zero, Int.zero_add]
      simp [adjL]
    · rintro i hi
      by_cases him : i + 1 < m
      case neg =>
        have hd : decide ((i : Int) + 1 < (m : Int)) = false := decide_eq_false (by omega)
        (repeat' (first | refine NextAt.mk (fun hc => ?_) (fun pre n v post hc hkey => ?_) | refine Sni.mk (fun hc => ?_) ?_ | refine Both.mk ?_ ?_ | refine AW_seq ?_ | refine AW_block ?_ | ((first | refine AW_reg ?_ | refine AW_cond ?_ | refine AW_skip ?_ | refine AW_exit ?_ | refine AW_ret ?_ | refine AW_regD (by kernel_rfl) ?_ | refine AW_regX (by kernel_rfl) ?_ | refine CallAtG.t (Eq.refl true) ?_ | refine CallAtG.f (Eq.refl false) ?_); try simp (disch := omega) only [go_sem, seval, reduceCtorEq, ↓reduceIte, beq_dec, Int.toNat_natCast, IntKind.signed, IntKind.bits, hd]) | refine And.intro (fun hc => (?_ : AW _ _ _ _)) (fun hc => (?_ : AW _ _ _ _)) | simp (disch := omega) only [go_sem, seval, reduceCtorEq, ↓reduceIte, beq_dec, Int.toNat_natCast, IntKind.signed, IntKind.bits, hd] | (refine And.intro ?_ ?_; focus (first | (intros; omega) | (intros; simp_all; done))) | refine And.intro (?_ : CallAt _ _ _ _ _ _ _ _) ?_ | refine And.intro (?_ : CallAt _ _ _ _ _ _ _ _ ∧ _) ?_ | refine And.intro (?_ : AW _ _ _ _) ?_ | fail))
        rw [show i = m - 1 by omega]
      case pos =>
        have hd : decide ((i : Int) + 1 < (m : Int)) = true := decide_eq_true (by omega)
        have hal := adjL_len t o i
        have b0 := ord_mem ho i (by omega)
        have b1 := ord_mem ho (i + 1) (by omega)
        (repeat' (first | refine NextAt.mk (fun hc => ?_) (fun pre n v post hc hkey => ?_) | refine Sni.mk (fun hc => ?_) ?_ | refine Both.mk ?_ ?_ | refine AW_seq ?_ | refine AW_block ?_ | ((first | refine AW_reg ?_ | refine AW_cond ?_ | refine AW_skip ?_ | refine AW_exit ?_ | refine AW_ret ?_ | refine AW_regD (by kernel_rfl) ?_ | refine AW_regX (by kernel_rfl) ?_ | refine CallAtG.t (Eq.refl true) ?_ | refine CallAtG.f (Eq.refl false) ?_); try simp (disch := omega) only [go_sem, seval, reduceCtorEq, ↓reduceIte, beq_dec, Int.toNat_natCast, IntKind.signed, IntKind.bits, hd]) | refine And.intro (fun hc => (?_ : AW _ _ _ _)) (fun hc => (?_ : AW _ _ _ _)) | simp (disch := omega) only [go_sem, seval, reduceCtorEq, ↓reduceIte, beq_dec, Int.toNat_natCast, IntKind.signed, IntKind.bits, hd] | (refine And.intro ?_ ?_; focus (first | (intros; omega) | (intros; simp_all; done))) | refine And.intro (?_ : CallAt _ _ _ _ _ _ _ _) ?_ | refine And.intro (?_ : CallAt _ _ _ _ _ _ _ _ ∧ _) ?_ | refine And.intro (?_ : AW _ _ _ _) ?_ | fail))
        refine AW_loopK [0, 2, 10, 11, 12, 37, 38] [13, 15, 39, 40, 41, 42, 43, 44, 45, 46, 47, 48, 49, 50, 51, 52, 53, 54, 55, 56, 57, 58, 59, 60, 61] (fun j : Nat => j ≤ t.length) (fun j => [(39, .I j), (13, .I (adjI t o (i + 1) j : Nat))]) (fun _ => []) (fun j => t.length - j) 0 (by omega) ?_ ?_
        · simp (disch := omega) only [go_sem, seval, reduceCtorEq, ↓reduceIte, beq_dec, Int.toNat_natCast, IntKind.signed, IntKind.bits, Int.natCast_zero, adjI]
        · rintro j hj
          have hai := adjI_le t o (i + 1) j
          have hbl := inB_len m (nth t j)
          have c0 := inB_at (n := m) (r := nth t j) b0
          have c1 := inB_at (n := m) (r := nth t j) b1
          have ht1 : ((i : Int) + 1 - 1).toNat = i := by omega
          have ht2 : ((i : Int) + 1).toNat = i + 1 := by omega
          (repeat' (first | refine NextAt.mk (fun hc => ?_) (fun pre n v post hc hkey => ?_) | refine Sni.mk (fun hc => ?_) ?_ | refine Both.mk ?_ ?_ | refine AW_seq ?_ | refine AW_block ?_ | ((first | refine AW_reg ?_ | refine AW_cond ?_ | refine AW_skip ?_ | refine AW_exit ?_ | refine AW_ret ?_ | refine AW_regD (by kernel_rfl) ?_ | refine AW_regX (by kernel_rfl) ?_ | refine CallAtG.t (Eq.refl true) ?_ | refine CallAtG.f (Eq.refl false) ?_); try simp (disch := omega) only [go_sem, seval, reduceCtorEq, ↓reduceIte, beq_dec, Int.toNat_natCast, IntKind.signed, IntKind.bits, maxLen, ht1, ht2, getD_map (fun r : List Int => [BRow (inB m r)]), getD_map (fun x : Bool => [CD.B x]), getD_map (fun x : Int => [CD.I x]), hbl, c0, c1, hal]) | refine And.intro (fun hc => (?_ : AW _ _ _ _)) (fun hc => (?_ : AW _ _ _ _)) | simp (disch := omega) only [go_sem, seval, reduceCtorEq, ↓reduceIte, beq_dec, Int.toNat_natCast, IntKind.signed, IntKind.bits, maxLen, ht1, ht2, getD_map (fun r : List Int => [BRow (inB m r)]), getD_map (fun x : Bool => [CD.B x]), getD_map (fun x : Int => [CD.I x]), hbl, c0, c1, hal] | (refine And.intro ?_ ?_; focus (first | (intros; omega) | (intros; simp_all; done))) | refine And.intro (?_ : CallAt _ _ _ _ _ _ _ _) ?_ | refine And.intro (?_ : CallAt _ _ _ _ _ _ _ _ ∧ _) ?_ | refine And.intro (?_ : AW _ _ _ _) ?_ | fail))
          · refine .mk (j + 1) (by omega) (by omega) ?_
            have e : ((adjI t o (i + 1) (j + 1) : Nat) : Int) = (adjI t o (i + 1) j : Nat) + 1 := by
              have h : ¬ decide (nth o i ∈ nth t j) = decide (nth o (i + 1) ∈ nth t j) := by simpa using hc
              simp only [adjI, dif, Nat.add_sub_cancel, if_neg h, Int.natCast_add, Int.natCast_one]
            simp (disch := omega) only [go_sem, seval, reduceCtorEq, ↓reduceIte, beq_dec, Int.toNat_natCast, IntKind.signed, IntKind.bits, e, Int.natCast_add, Int.natCast_one]
          · refine .mk (j + 1) (by omega) (by omega) ?_
            have e : adjI t o (i + 1) (j + 1) = adjI t o (i + 1) j := by
              have h : decide (nth o i ∈ nth t j) = decide (nth o (i + 1) ∈ nth t j) := by simpa using hc
              simp only [adjI, dif, Nat.add_sub_cancel, if_pos h, Nat.add_zero]
            simp (disch := omega) only [go_sem, seval, reduceCtorEq, ↓reduceIte, beq_dec, Int.toNat_natCast, IntKind.signed, IntKind.bits, e, Int.natCast_add, Int.natCast_one]
          · have ej : j = t.length := by omega
            subst ej
            refine .mk (i + 1) (by omega) (by omega) ?_
            have e := adjL_succ t o i
            simp (disch := omega) only [go_sem, seval, reduceCtorEq, ↓reduceIte, beq_dec, Int.toNat_natCast, IntKind.signed, IntKind.bits, e, List.map_append, List.map_cons, List.map_nil, Int.natCast_add, Int.natCast_one]
end Go.Proofs.Ytciglfmfemidnaa

-- P p_30s.txt
open Go Go.AL Go.RowKit
namespace Go.Proofs.Ytciglfmfemidnaa
set_option maxRecDepth 20000
/-! ### the number of gaps from the changes -/
def chg (r o : List Int) : Nat → Nat
  | 0 => 0
  | m + 1 => chg r o m + dif r o (m + 1)
def b2n (b : Bool) : Nat := if b then 1 else 0
theorem chg_runs (r o : List Int) : ∀ m, chg r o m + b2n (decide (nth o 0 ∈ r)) + b2n (decide (nth o m ∈ r)) = 2 * runsN r o (m + 1)
  | 0 => by
    simp only [chg, runsN, b2n]
    by_cases h : nth o 0 ∈ r <;> simp [h]
  | m + 1 => by
    have ih := chg_runs r o m
    rw [runsN]
    simp only [chg, dif, b2n, Nat.add_sub_cancel] at ih ⊢
    by_cases h1 : nth o m ∈ r <;> by_cases h2 : nth o (m + 1) ∈ r <;> simp [h1, h2] at ih ⊢ <;> omega
def sumA (t : List (List Int)) (o : List Int) (k : Nat) : Nat → Nat
  | 0 => 0
  | m + 1 => sumA t o k m + adjI t o (m + 1) k
theorem sumA_zero (t : List (List Int)) (o : List Int) : ∀ m, sumA t o 0 m = 0
  | 0 => rfl
  | m + 1 => by simp [sumA, sumA_zero t o m, adjI]
theorem sumA_succ (t : List (List Int)) (o : List Int) (k : Nat) : ∀ m, sumA t o (k + 1) m = sumA t o k m + chg (nth t k) o m
  | 0 => rfl
  | m + 1 => by
    simp only [sumA, sumA_succ t o k m, adjI, chg]
    omega
def ends (t : List (List Int)) (o : List Int) (z : Nat) : Nat → Nat
  | 0 => 0
  | k + 1 => ends t o z k + b2n (decide (nth o 0 ∈ nth t k)) + b2n (decide (nth o z ∈ nth t k))
def filled (t : List (List Int)) : Nat → Nat
  | 0 => 0
  | k + 1 => filled t k + b2n (decide (0 < (nth t k).length))
def sumR (t : List (List Int)) (o : List Int) : Nat → Nat
  | 0 => 0
  | k + 1 => sumR t o k + runsN (nth t k) o o.length
theorem sum_ends (t : List (List Int)) (o : List Int) (m : Nat) (h : o.length = m + 1) : ∀ k, sumA t o k m + ends t o m k = 2 * sumR t o k
  | 0 => by simp [sumA_zero, ends, sumR]
  | k + 1 => by
    have ih := sum_ends t o m h k
    have h1 := chg_runs (nth t k) o m
    simp only [sumA_succ, ends, sumR, h]
    omega
theorem sum_gap {n : Int} {t : List (List Int)} {o : List Int} (h4 : ∀ i, i < t.length → asc (nth t i) 0 (n - 1) = true) (ho : isOrd o n = true) : ∀ k, k ≤ t.length → ((sumR t o k : Nat) : Int) = gapN (runsO t o) k + (filled t k : Nat)
  | 0, _ => rfl
  | k + 1, hk => by
    have ih := sum_gap h4 ho k (by omega)
    have hz := runs_eq_zero ho (h4 k (by omega))
    simp only [sumR, filled, gapN, runsO_nth (t := t) (o := o) (i := k) (by omega), Int.natCast_add, ih, b2n]
    by_cases h0 : 0 < (nth t k).length
    · simp only [h0, decide_true, if_true]
      omega
    · have h1 := hz.2 (by omega)
      simp only [h0, decide_false, h1]
      simp
      omega
theorem sumR_le {n : Int} {t : List (List Int)} {o : List Int} (h4 : ∀ i, i < t.length → asc (nth t i) 0 (n - 1) = true) (ho : isOrd o n = true) : ∀ k, k ≤ t.length → sumR t o k ≤ k * o.length
  | 0, _ => by simp [sumR]
  | k + 1, hk => by
    have ih := sumR_le h4 ho k (by omega)
    have := runsN_le (nth t k) o o.length
    simp only [sumR, Nat.add_mul, Nat.one_mul]
    omega
theorem filled_le (t : List (List Int)) : ∀ k, filled t k ≤ k
  | 0 => Nat.le_refl _
  | k + 1 => by
    have := filled_le t k
    simp only [filled, b2n]
    split <;> omega
theorem ends_le (t : List (List Int)) (o : List Int) (z : Nat) : ∀ k, ends t o z k ≤ 2 * k
  | 0 => Nat.le_refl _
  | k + 1 => by
    have := ends_le t o z k
    simp only [ends, b2n]
    split <;> split <;> omega
theorem sumA_le (t : List (List Int)) (o : List Int) (k : Nat) : ∀ m, sumA t o k m ≤ k * m
  | 0 => Nat.le_refl _
  | m + 1 => by
    have := sumA_le t o k m
    have := adjI_le t o (m + 1) k
    simp only [sumA, Nat.mul_add, Nat.mul_one]
    omega
theorem adjL_nth {t : List (List Int)} {o : List Int} {m i : Nat} (h : i < m) : nth (adjL t o m) i = (adjI t o (i + 1) t.length : Nat) := by
  rw [nth_eq _ i (by rw [adjL_len]; exact h)]; simp [adjL]
theorem b2n_le (b : Bool) : b2n b ≤ 1 := by cases b <;> simp [b2n]
def twoN (a b : Bool) : Nat → Nat
  | 0 => 0
  | 1 => b2n a
  | _ + 2 => b2n a + b2n b
theorem twoN_0 (a b : Bool) : twoN a b 0 = 0 := rfl
theorem twoN_1 (a b : Bool) : twoN a b 1 = b2n a := rfl
theorem twoN_2 (a b : Bool) : twoN a b 2 = b2n a + b2n b := rfl
theorem b2n_T {p : Prop} [Decidable p] (h : p) : b2n (decide p) = 1 := by simp [b2n, h]
theorem b2n_F {p : Prop} [Decidable p] (h : ¬ p) : b2n (decide p) = 0 := by simp [b2n, h]
set_option maxHeartbeats 4000000 in
theorem v16 (n : Int) (t : List (List Int)) (o : List Int) (hl : o.length ≤ 1000000) : FnR Try.prog 8 [.I n, .c (Tab t), .c (Row o)] [.c (.I (gapsV n t o)), .c (.I (runErr n t o))] := by
  have g18 := v18 n t o hl
  refine fn_walk code8 (by simp) ?_
  unfold adjV at g18
  by_cases hr : runErr n t o = 0
  case neg =>
    have hre : decide (runErr n t o = 0) = false := decide_eq_false hr
    simp only [if_neg hr] at g18
    have hg : gapsV n t o = 0 := by unfold gapsV runsL; rw [if_neg hr]; rfl
    rw [hg]
    (repeat' (first | refine NextAt.mk (fun hc => ?_) (fun pre n v post hc hkey => ?_) | refine Sni.mk (fun hc => ?_) ?_ | refine Both.mk ?_ ?_ | refine AW_seq ?_ | refine AW_block ?_ | ((first | refine AW_reg ?_ | refine AW_cond ?_ | refine AW_skip ?_ | refine AW_exit ?_ | refine AW_ret ?_ | refine AW_regD (by kernel_rfl) ?_ | refine AW_regX (by kernel_rfl) ?_ | refine CallAtG.t (Eq.refl true) ?_ | refine CallAtG.f (Eq.refl false) ?_ | refine CallAt.mk _ (g18 ..) (by first | (intro h; cases h; done) | (intro _; repeat' (first | exact List.forall_mem_nil _ | trivial | refine List.forall_mem_cons.2 ⟨?_, ?_⟩)) | (intro _; simp [RV.flatP, CD.flatP, hre]; done)) ?_ | refine CallAtG.mk _ (fun _ => g18 ..) ?_ | refine CallDS.mk _ (by simp [RV.data]) (fun _ => g18 ..) (by first | (intro h; cases h; done) | (intro _; repeat' (first | exact List.forall_mem_nil _ | trivial | refine List.forall_mem_cons.2 ⟨?_, ?_⟩)) | (intro _; simp [RV.flatP, CD.flatP, hre]; done)) ?_); try simp (disch := omega) only [go_sem, seval, reduceCtorEq, ↓reduceIte, beq_dec, Int.toNat_natCast, IntKind.signed, IntKind.bits, hre]) | refine And.intro (fun hc => (?_ : AW _ _ _ _)) (fun hc => (?_ : AW _ _ _ _)) | simp (disch := omega) only [go_sem, seval, reduceCtorEq, ↓reduceIte, beq_dec, Int.toNat_natCast, IntKind.signed, IntKind.bits, hre] | (refine And.intro ?_ ?_; focus (first | (intros; omega) | (intros; simp_all; done))) | refine And.intro (?_ : CallAt _ _ _ _ _ _ _ _) ?_ | refine And.intro (?_ : CallAt _ _ _ _ _ _ _ _ ∧ _) ?_ | refine And.intro (?_ : AW _ _ _ _) ?_ | fail))
  case pos =>
    rw [gapsV_gapO hr]
    rw [hr] at g18 ⊢
    simp only [if_true] at g18
    obtain ⟨hv, ho⟩ := runErr_zero.1 hr
    obtain ⟨h1, h2, h3, h4⟩ := valid_rows hv
    obtain ⟨_, _, _, h5⟩ := validT_of hv
    obtain ⟨q0, q1, q2⟩ := isOrd_iff.1 ho
    obtain ⟨m, rfl⟩ : ∃ m : Nat, n = m := ⟨n.toNat, by omega⟩
    have g35 := FnP.high (w35 m t ⟨h1, by omega⟩ (by omega) h4)
    simp only [renL, AV.ren, renOb, AO.ren, List.map_cons, List.map_nil, rh15, rh13, Int.toNat_natCast] at g35
    simp only [Int.toNat_natCast] at q2 g18
    have hal := adjL_len t o (m - 1)
    have hz : m = 0 → gapO t o = 0 := fun h => by
      have e : o = [] := List.length_eq_zero_iff.1 (by omega)
      rw [e, gapO_nil]
    by_cases hm : m = 0
    case pos =>
      rw [hz hm]
      have hd : decide ((m : Int) = 0) = true := decide_eq_true (by omega)
      (repeat' (first | refine NextAt.mk (fun hc => ?_) (fun pre n v post hc hkey => ?_) | refine Sni.mk (fun hc => ?_) ?_ | refine Both.mk ?_ ?_ | refine AW_seq ?_ | refine AW_block ?_ | ((first | refine AW_reg ?_ | refine AW_cond ?_ | refine AW_skip ?_ | refine AW_exit ?_ | refine AW_ret ?_ | refine AW_regD (by kernel_rfl) ?_ | refine AW_regX (by kernel_rfl) ?_ | refine CallAt.mkP (g35 ..) (by rfl) (by simp (disch := omega) only [go_sem, seval, reduceCtorEq, ↓reduceIte, beq_dec, Int.toNat_natCast, IntKind.signed, IntKind.bits, hd]) (by rfl) (by rfl) (by first | (intro h; cases h; done) | (intro _; simp [RV.flatP, CD.flatP, flatOb, AO.flatP, hd]; done)) ?_ | refine CallAtG.t (Eq.refl true) ?_ | refine CallAtG.f (Eq.refl false) ?_ | refine CallAt.mk _ (g18 ..) (by first | (intro h; cases h; done) | (intro _; repeat' (first | exact List.forall_mem_nil _ | trivial | refine List.forall_mem_cons.2 ⟨?_, ?_⟩)) | (intro _; simp [RV.flatP, CD.flatP, hd]; done)) ?_ | refine CallAtG.mk _ (fun _ => g18 ..) ?_ | refine CallDS.mk _ (by simp [RV.data]) (fun _ => g18 ..) (by first | (intro h; cases h; done) | (intro _; repeat' (first | exact List.forall_mem_nil _ | trivial | refine List.forall_mem_cons.2 ⟨?_, ?_⟩)) | (intro _; simp [RV.flatP, CD.flatP, hd]; done)) ?_); try simp (disch := omega) only [go_sem, seval, reduceCtorEq, ↓reduceIte, beq_dec, Int.toNat_natCast, IntKind.signed, IntKind.bits, hd]) | refine And.intro (fun hc => (?_ : AW _ _ _ _)) (fun hc => (?_ : AW _ _ _ _)) | simp (disch := omega) only [go_sem, seval, reduceCtorEq, ↓reduceIte, beq_dec, Int.toNat_natCast, IntKind.signed, IntKind.bits, hd] | (refine And.intro ?_ ?_; focus (first | (intros; omega) | (intros; simp_all; done))) | refine And.intro (?_ : CallAt _ _ _ _ _ _ _ _) ?_ | refine And.intro (?_ : CallAt _ _ _ _ _ _ _ _ ∧ _) ?_ | refine And.intro (?_ : AW _ _ _ _) ?_ | fail))
    case neg =>
    have hd : decide ((m : Int) = 0) = false := decide_eq_false (by omega)
    (repeat' (first | refine NextAt.mk (fun hc => ?_) (fun pre n v post hc hkey => ?_) | refine Sni.mk (fun hc => ?_) ?_ | refine Both.mk ?_ ?_ | refine AW_seq ?_ | refine AW_block ?_ | ((first | refine AW_reg ?_ | refine AW_cond ?_ | refine AW_skip ?_ | refine AW_exit ?_ | refine AW_ret ?_ | refine AW_regD (by kernel_rfl) ?_ | refine AW_regX (by kernel_rfl) ?_ | refine CallAt.mkP (g35 ..) (by rfl) (by simp (disch := omega) only [go_sem, seval, reduceCtorEq, ↓reduceIte, beq_dec, Int.toNat_natCast, IntKind.signed, IntKind.bits, hd]) (by rfl) (by rfl) (by first | (intro h; cases h; done) | (intro _; simp [RV.flatP, CD.flatP, flatOb, AO.flatP, hd]; done)) ?_ | refine CallAtG.t (Eq.refl true) ?_ | refine CallAtG.f (Eq.refl false) ?_ | refine CallAt.mk _ (g18 ..) (by first | (intro h; cases h; done) | (intro _; repeat' (first | exact List.forall_mem_nil _ | trivial | refine List.forall_mem_cons.2 ⟨?_, ?_⟩)) | (intro _; simp [RV.flatP, CD.flatP, hd]; done)) ?_ | refine CallAtG.mk _ (fun _ => g18 ..) ?_ | refine CallDS.mk _ (by simp [RV.data]) (fun _ => g18 ..) (by first | (intro h; cases h; done) | (intro _; repeat' (first | exact List.forall_mem_nil _ | trivial | refine List.forall_mem_cons.2 ⟨?_, ?_⟩)) | (intro _; simp [RV.flatP, CD.flatP, hd]; done)) ?_); try simp (disch := omega) only [go_sem, seval, reduceCtorEq, ↓reduceIte, beq_dec, Int.toNat_natCast, IntKind.signed, IntKind.bits, hd]) | refine And.intro (fun hc => (?_ : AW _ _ _ _)) (fun hc => (?_ : AW _ _ _ _)) | simp (disch := omega) only [go_sem, seval, reduceCtorEq, ↓reduceIte, beq_dec, Int.toNat_natCast, IntKind.signed, IntKind.bits, hd] | (refine And.intro ?_ ?_; focus (first | (intros; omega) | (intros; simp_all; done))) | refine And.intro (?_ : CallAt _ _ _ _ _ _ _ _) ?_ | refine And.intro (?_ : CallAt _ _ _ _ _ _ _ _ ∧ _) ?_ | refine And.intro (?_ : AW _ _ _ _) ?_ | fail))
    refine AW_loopK [0, 1, 2, 11, 32, 33] [10, 13, 34, 35, 36, 37, 38, 39, 40, 41] (fun i : Nat => i ≤ m - 1) (fun i => [(34, .I i), (10, .I (sumA t o t.length i : Nat))]) (fun _ => []) (fun i => m - 1 - i) 0 (by omega) ?_ ?_
    · simp (disch := omega) only [go_sem, seval, reduceCtorEq, ↓reduceIte, beq_dec, Int.toNat_natCast, IntKind.signed, IntKind.bits, Int.natCast_zero, sumA]
    · rintro i hi
      have hs1 := sumA_le t o t.length i
      have hs2 : t.length * i ≤ 16 * 7 := Nat.mul_le_mul (by omega) (by omega)
      have hs3 := adjI_le t o (i + 1) t.length
      have hn : i < m - 1 → nth (adjL t o (m - 1)) i = (adjI t o (i + 1) t.length : Nat) := adjL_nth
      by_cases him : i < m - 1
      case pos =>
        have hn := hn him
        have hd2 : decide ((i : Int) < ((m - 1 : Nat) : Int)) = true := decide_eq_true (by omega)
        (repeat' (first | refine NextAt.mk (fun hc => ?_) (fun pre n v post hc hkey => ?_) | refine Sni.mk (fun hc => ?_) ?_ | refine Both.mk ?_ ?_ | refine AW_seq ?_ | refine AW_block ?_ | ((first | refine AW_reg ?_ | refine AW_cond ?_ | refine AW_skip ?_ | refine AW_exit ?_ | refine AW_ret ?_ | refine AW_regD (by kernel_rfl) ?_ | refine AW_regX (by kernel_rfl) ?_ | refine CallAtG.t (Eq.refl true) ?_ | refine CallAtG.f (Eq.refl false) ?_); try simp (disch := omega) only [go_sem, seval, reduceCtorEq, ↓reduceIte, beq_dec, Int.toNat_natCast, IntKind.signed, IntKind.bits, maxLen, hal, hn, hd2, getD_map (fun x : Int => [CD.I x])]) | refine And.intro (fun hc => (?_ : AW _ _ _ _)) (fun hc => (?_ : AW _ _ _ _)) | simp (disch := omega) only [go_sem, seval, reduceCtorEq, ↓reduceIte, beq_dec, Int.toNat_natCast, IntKind.signed, IntKind.bits, maxLen, hal, hn, hd2, getD_map (fun x : Int => [CD.I x])] | (refine And.intro ?_ ?_; focus (first | (intros; omega) | (intros; simp_all; done))) | refine And.intro (?_ : CallAt _ _ _ _ _ _ _ _) ?_ | refine And.intro (?_ : CallAt _ _ _ _ _ _ _ _ ∧ _) ?_ | refine And.intro (?_ : AW _ _ _ _) ?_ | fail))
        refine .mk (i + 1) (by omega) (by omega) ?_
        simp (disch := omega) only [go_sem, seval, reduceCtorEq, ↓reduceIte, beq_dec, Int.toNat_natCast, IntKind.signed, IntKind.bits, Int.natCast_add, Int.natCast_one, sumA]
      case neg =>
        have hd2 : decide ((i : Int) < ((m - 1 : Nat) : Int)) = false := decide_eq_false (by omega)
        have ei : i = m - 1 := by omega
        subst ei
        (repeat' (first | refine NextAt.mk (fun hc => ?_) (fun pre n v post hc hkey => ?_) | refine Sni.mk (fun hc => ?_) ?_ | refine Both.mk ?_ ?_ | refine AW_seq ?_ | refine AW_block ?_ | ((first | refine AW_reg ?_ | refine AW_cond ?_ | refine AW_skip ?_ | refine AW_exit ?_ | refine AW_ret ?_ | refine AW_regD (by kernel_rfl) ?_ | refine AW_regX (by kernel_rfl) ?_ | refine CallAt.mkP (g35 ..) (by rfl) (by simp (disch := omega) only [go_sem, seval, reduceCtorEq, ↓reduceIte, beq_dec, Int.toNat_natCast, IntKind.signed, IntKind.bits, maxLen, hal, hd2, Int.toNat_natCast]) (by rfl) (by rfl) (by first | (intro h; cases h; done) | (intro _; simp [RV.flatP, CD.flatP, flatOb, AO.flatP, maxLen, hal, hd2, Int.toNat_natCast]; done)) ?_ | refine CallAtG.t (Eq.refl true) ?_ | refine CallAtG.f (Eq.refl false) ?_); try simp (disch := omega) only [go_sem, seval, reduceCtorEq, ↓reduceIte, beq_dec, Int.toNat_natCast, IntKind.signed, IntKind.bits, maxLen, hal, hd2, Int.toNat_natCast]) | refine And.intro (fun hc => (?_ : AW _ _ _ _)) (fun hc => (?_ : AW _ _ _ _)) | simp (disch := omega) only [go_sem, seval, reduceCtorEq, ↓reduceIte, beq_dec, Int.toNat_natCast, IntKind.signed, IntKind.bits, maxLen, hal, hd2, Int.toNat_natCast] | (refine And.intro ?_ ?_; focus (first | (intros; omega) | (intros; simp_all; done))) | refine And.intro (?_ : CallAt _ _ _ _ _ _ _ _) ?_ | refine And.intro (?_ : CallAt _ _ _ _ _ _ _ _ ∧ _) ?_ | refine And.intro (?_ : AW _ _ _ _) ?_ | fail))
        refine AW_loopK [0, 1, 2, 47, 48] [10, 11, 14, 15, 17, 49, 50, 51, 52, 53, 54, 55, 56, 57, 58, 59, 60, 61, 62, 63, 64, 65, 66, 67, 68, 69, 70, 71, 72, 73, 74, 75, 76, 77, 78, 79, 80, 81] (fun i : Nat => i ≤ t.length) (fun i => [(49, .I i), (10, .I (sumA t o t.length (m - 1) + ends t o (m - 1) i : Nat)), (11, .I (filled t i : Nat))]) (fun _ => []) (fun i => t.length - i) 0 (by omega) ?_ ?_
        · simp (disch := omega) only [go_sem, seval, reduceCtorEq, ↓reduceIte, beq_dec, Int.toNat_natCast, IntKind.signed, IntKind.bits, Int.natCast_zero, ends, filled, Nat.add_zero]
        · rintro i hi
          have hf1 := filled_le t i
          have hf2 := ends_le t o (m - 1) i
          have hbl := inB_len m (nth t i)
          have b0 := ord_mem ho 0 (by omega)
          have b1 := ord_mem ho (m - 1) (by omega)
          have c0 := inB_at (n := m) (r := nth t i) b0
          have c1 := inB_at (n := m) (r := nth t i) b1
          have ht1 : ((m : Int) - 1).toNat = m - 1 := by omega
          have ht0 : (0 : Int).toNat = 0 := rfl
          (repeat' (first | refine NextAt.mk (fun hc => ?_) (fun pre n v post hc hkey => ?_) | refine Sni.mk (fun hc => ?_) ?_ | refine Both.mk ?_ ?_ | refine AW_seq ?_ | refine AW_block ?_ | ((first | refine AW_reg ?_ | refine AW_cond ?_ | refine AW_skip ?_ | refine AW_exit ?_ | refine AW_ret ?_ | refine AW_regD (by kernel_rfl) ?_ | refine AW_regX (by kernel_rfl) ?_ | refine CallAtG.t (Eq.refl true) ?_ | refine CallAtG.f (Eq.refl false) ?_); try simp (disch := omega) only [go_sem, seval, reduceCtorEq, ↓reduceIte, beq_dec, Int.toNat_natCast, IntKind.signed, IntKind.bits, maxLen, ht1, ht0, getD_map (fun r : List Int => [BRow (inB m r)]), getD_map (fun x : Bool => [CD.B x]), getD_map (fun x : Int => [CD.I x]), hbl]) | refine And.intro (fun hc => (?_ : AW _ _ _ _)) (fun hc => (?_ : AW _ _ _ _)) | simp (disch := omega) only [go_sem, seval, reduceCtorEq, ↓reduceIte, beq_dec, Int.toNat_natCast, IntKind.signed, IntKind.bits, maxLen, ht1, ht0, getD_map (fun r : List Int => [BRow (inB m r)]), getD_map (fun x : Bool => [CD.B x]), getD_map (fun x : Int => [CD.I x]), hbl] | (refine And.intro ?_ ?_; focus (first | (intros; omega) | (intros; simp_all; done))) | refine And.intro (?_ : CallAt _ _ _ _ _ _ _ _) ?_ | refine And.intro (?_ : CallAt _ _ _ _ _ _ _ _ ∧ _) ?_ | refine And.intro (?_ : AW _ _ _ _) ?_ | fail))
          · have two : ∀ j : Nat, j ≤ 2 → j = 0 ∨ j = 1 ∨ j = 2 := fun j h => by omega
            have hs4 := b2n_le (decide (nth o 0 ∈ nth t i))
            have hs5 := b2n_le (decide (nth o (m - 1) ∈ nth t i))
            refine AW_loopK [0, 1, 2, 11, 14, 15, 47, 48, 49, 62] [10, 17, 63, 64, 65, 66, 67, 68, 69, 70, 71, 72] (fun j : Nat => j ≤ 2) (fun j => [(63, .I j), (10, .I (sumA t o t.length (m - 1) + ends t o (m - 1) i + twoN (decide (nth o 0 ∈ nth t i)) (decide (nth o (m - 1) ∈ nth t i)) j : Nat))]) (fun _ => []) (fun j => 2 - j) 0 (by omega) ?_ ?_
            · simp (disch := omega) only [go_sem, seval, reduceCtorEq, ↓reduceIte, beq_dec, Int.toNat_natCast, IntKind.signed, IntKind.bits, Int.natCast_zero, twoN_0, Nat.add_zero]
            · rintro j hj
              rcases two j hj with rfl | rfl | rfl
              · have hd3 : decide (((0 : Nat) : Int) < 2) = true := rfl
                (repeat' (first | refine NextAt.mk (fun hc => ?_) (fun pre n v post hc hkey => ?_) | refine Sni.mk (fun hc => ?_) ?_ | refine Both.mk ?_ ?_ | refine AW_seq ?_ | refine AW_block ?_ | ((first | refine AW_reg ?_ | refine AW_cond ?_ | refine AW_skip ?_ | refine AW_exit ?_ | refine AW_ret ?_ | refine AW_regD (by kernel_rfl) ?_ | refine AW_regX (by kernel_rfl) ?_ | refine CallAtG.t (Eq.refl true) ?_ | refine CallAtG.f (Eq.refl false) ?_); try simp (disch := omega) only [go_sem, seval, reduceCtorEq, ↓reduceIte, beq_dec, Int.toNat_natCast, IntKind.signed, IntKind.bits, maxLen, ht1, ht0, hd3, getD_map (fun x : Bool => [CD.B x]), hbl, c0, c1, twoN_0, twoN_1, twoN_2]) | refine And.intro (fun hc => (?_ : AW _ _ _ _)) (fun hc => (?_ : AW _ _ _ _)) | simp (disch := omega) only [go_sem, seval, reduceCtorEq, ↓reduceIte, beq_dec, Int.toNat_natCast, IntKind.signed, IntKind.bits, maxLen, ht1, ht0, hd3, getD_map (fun x : Bool => [CD.B x]), hbl, c0, c1, twoN_0, twoN_1, twoN_2] | (refine And.intro ?_ ?_; focus (first | (intros; omega) | (intros; simp_all; done))) | refine And.intro (?_ : CallAt _ _ _ _ _ _ _ _) ?_ | refine And.intro (?_ : CallAt _ _ _ _ _ _ _ _ ∧ _) ?_ | refine And.intro (?_ : AW _ _ _ _) ?_ | fail))
                · refine .mk 1 (by omega) (by omega) ?_
                  have e := b2n_T hc
                  simp (disch := omega) only [go_sem, seval, reduceCtorEq, ↓reduceIte, beq_dec, Int.toNat_natCast, IntKind.signed, IntKind.bits, e, twoN_0, twoN_1, twoN_2, Int.natCast_add, Int.natCast_one, Int.natCast_zero, Nat.add_zero, Int.add_zero, Int.zero_add]
                · refine .mk 1 (by omega) (by omega) ?_
                  have e := b2n_F hc
                  simp (disch := omega) only [go_sem, seval, reduceCtorEq, ↓reduceIte, beq_dec, Int.toNat_natCast, IntKind.signed, IntKind.bits, e, twoN_0, twoN_1, twoN_2, Int.natCast_add, Int.natCast_one, Int.natCast_zero, Nat.add_zero, Int.add_zero, Int.zero_add]
              · have hd3 : decide (((1 : Nat) : Int) < 2) = true := rfl
                (repeat' (first | refine NextAt.mk (fun hc => ?_) (fun pre n v post hc hkey => ?_) | refine Sni.mk (fun hc => ?_) ?_ | refine Both.mk ?_ ?_ | refine AW_seq ?_ | refine AW_block ?_ | ((first | refine AW_reg ?_ | refine AW_cond ?_ | refine AW_skip ?_ | refine AW_exit ?_ | refine AW_ret ?_ | refine AW_regD (by kernel_rfl) ?_ | refine AW_regX (by kernel_rfl) ?_ | refine CallAtG.t (Eq.refl true) ?_ | refine CallAtG.f (Eq.refl false) ?_); try simp (disch := omega) only [go_sem, seval, reduceCtorEq, ↓reduceIte, beq_dec, Int.toNat_natCast, IntKind.signed, IntKind.bits, maxLen, ht1, ht0, hd3, getD_map (fun x : Bool => [CD.B x]), hbl, c0, c1, twoN_0, twoN_1, twoN_2]) | refine And.intro (fun hc => (?_ : AW _ _ _ _)) (fun hc => (?_ : AW _ _ _ _)) | simp (disch := omega) only [go_sem, seval, reduceCtorEq, ↓reduceIte, beq_dec, Int.toNat_natCast, IntKind.signed, IntKind.bits, maxLen, ht1, ht0, hd3, getD_map (fun x : Bool => [CD.B x]), hbl, c0, c1, twoN_0, twoN_1, twoN_2] | (refine And.intro ?_ ?_; focus (first | (intros; omega) | (intros; simp_all; done))) | refine And.intro (?_ : CallAt _ _ _ _ _ _ _ _) ?_ | refine And.intro (?_ : CallAt _ _ _ _ _ _ _ _ ∧ _) ?_ | refine And.intro (?_ : AW _ _ _ _) ?_ | fail))
                · refine .mk 2 (by omega) (by omega) ?_
                  have e := b2n_T hc
                  simp (disch := omega) only [go_sem, seval, reduceCtorEq, ↓reduceIte, beq_dec, Int.toNat_natCast, IntKind.signed, IntKind.bits, e, twoN_0, twoN_1, twoN_2, Int.natCast_add, Int.natCast_one, Int.natCast_zero, Nat.add_zero, Int.add_zero, Int.zero_add]
                  all_goals first | omega | rfl | (refine ⟨rfl, ?_⟩; omega)
                · refine .mk 2 (by omega) (by omega) ?_
                  have e := b2n_F hc
                  simp (disch := omega) only [go_sem, seval, reduceCtorEq, ↓reduceIte, beq_dec, Int.toNat_natCast, IntKind.signed, IntKind.bits, e, twoN_0, twoN_1, twoN_2, Int.natCast_add, Int.natCast_one, Int.natCast_zero, Nat.add_zero, Int.add_zero, Int.zero_add]
                  all_goals rfl
              · have hd3 : decide (((2 : Nat) : Int) < 2) = false := rfl
                (repeat' (first | refine NextAt.mk (fun hc => ?_) (fun pre n v post hc hkey => ?_) | refine Sni.mk (fun hc => ?_) ?_ | refine Both.mk ?_ ?_ | refine AW_seq ?_ | refine AW_block ?_ | ((first | refine AW_reg ?_ | refine AW_cond ?_ | refine AW_skip ?_ | refine AW_exit ?_ | refine AW_ret ?_ | refine AW_regD (by kernel_rfl) ?_ | refine AW_regX (by kernel_rfl) ?_ | refine CallAtG.t (Eq.refl true) ?_ | refine CallAtG.f (Eq.refl false) ?_); try simp (disch := omega) only [go_sem, seval, reduceCtorEq, ↓reduceIte, beq_dec, Int.toNat_natCast, IntKind.signed, IntKind.bits, maxLen, ht1, ht0, hd3, getD_map (fun r : List Int => [Row r]), getD_map (fun x : Bool => [CD.B x]), hbl, c0, c1, twoN_0, twoN_1, twoN_2]) | refine And.intro (fun hc => (?_ : AW _ _ _ _)) (fun hc => (?_ : AW _ _ _ _)) | simp (disch := omega) only [go_sem, seval, reduceCtorEq, ↓reduceIte, beq_dec, Int.toNat_natCast, IntKind.signed, IntKind.bits, maxLen, ht1, ht0, hd3, getD_map (fun r : List Int => [Row r]), getD_map (fun x : Bool => [CD.B x]), hbl, c0, c1, twoN_0, twoN_1, twoN_2] | (refine And.intro ?_ ?_; focus (first | (intros; omega) | (intros; simp_all; done))) | refine And.intro (?_ : CallAt _ _ _ _ _ _ _ _) ?_ | refine And.intro (?_ : CallAt _ _ _ _ _ _ _ _ ∧ _) ?_ | refine And.intro (?_ : AW _ _ _ _) ?_ | fail))
                · refine .mk (i + 1) (by omega) (by omega) ?_
                  have e := b2n_T (p := 0 < (nth t i).length) (by omega)
                  simp (disch := omega) only [go_sem, seval, reduceCtorEq, ↓reduceIte, beq_dec, Int.toNat_natCast, IntKind.signed, IntKind.bits, e, ends, filled, twoN_2, Int.natCast_add, Int.natCast_one, Int.add_assoc]
                · refine .mk (i + 1) (by omega) (by omega) ?_
                  have e := b2n_F (p := 0 < (nth t i).length) (by omega)
                  simp (disch := omega) only [go_sem, seval, reduceCtorEq, ↓reduceIte, beq_dec, Int.toNat_natCast, IntKind.signed, IntKind.bits, e, ends, filled, twoN_2, Int.natCast_add, Int.natCast_one, Int.natCast_zero, Int.add_zero, Int.add_assoc]
          · have ei : i = t.length := by omega
            subst ei
            have e1 := sum_ends t o (m - 1) (by omega) t.length
            have e2 := sum_gap h5 ho t.length (Nat.le_refl _)
            have e3 : gapO t o = gapN (runsO t o) t.length := rfl
            have e4 := sumR_le h5 ho t.length (Nat.le_refl _)
            have e6 : t.length * o.length ≤ 16 * 7 := Nat.mul_le_mul (by omega) (by omega)
            have e5 : ((sumA t o t.length (m - 1) + ends t o (m - 1) t.length : Nat) : Int).tdiv 2 = (sumR t o t.length : Nat) := by
              rw [e1, Int.natCast_mul]
              exact Int.mul_tdiv_cancel_left _ (by decide)
            rw [e5]
            have e7 : ((sumR t o t.length : Nat) : Int) - (filled t t.length : Nat) = gapO t o := by omega
            rw [e7]
            refine ⟨by omega, by omega, ?_⟩
            (repeat' (first | refine NextAt.mk (fun hc => ?_) (fun pre n v post hc hkey => ?_) | refine Sni.mk (fun hc => ?_) ?_ | refine Both.mk ?_ ?_ | refine AW_seq ?_ | refine AW_block ?_ | ((first | refine AW_reg ?_ | refine AW_cond ?_ | refine AW_skip ?_ | refine AW_exit ?_ | refine AW_ret ?_ | refine AW_regD (by kernel_rfl) ?_ | refine AW_regX (by kernel_rfl) ?_ | refine CallAtG.t (Eq.refl true) ?_ | refine CallAtG.f (Eq.refl false) ?_); try simp (disch := omega) only [go_sem, seval, reduceCtorEq, ↓reduceIte, beq_dec, Int.toNat_natCast, IntKind.signed, IntKind.bits]) | refine And.intro (fun hc => (?_ : AW _ _ _ _)) (fun hc => (?_ : AW _ _ _ _)) | simp (disch := omega) only [go_sem, seval, reduceCtorEq, ↓reduceIte, beq_dec, Int.toNat_natCast, IntKind.signed, IntKind.bits] | (refine And.intro ?_ ?_; focus (first | (intros; omega) | (intros; simp_all; done))) | refine And.intro (?_ : CallAt _ _ _ _ _ _ _ _) ?_ | refine And.intro (?_ : CallAt _ _ _ _ _ _ _ _ ∧ _) ?_ | refine And.intro (?_ : AW _ _ _ _) ?_ | fail))
end Go.Proofs.Ytciglfmfemidnaa

-- P p_30s.txt
open Go Go.AL Go.RowKit
namespace Go.Proofs.Ytciglfmfemidnaa
set_option maxRecDepth 20000

def fewB (t : List (List Int)) : Bool := decide (t.length ≤ 20 ∧ ∀ i, i < t.length → (nth t i).length ≤ 20)
theorem v12 (t : List (List Int)) : FnR Try.prog 5 [.c (Tab t)] [.c (.B (fewB t))] := by
  refine FnR_len (pre := []) (post := []) (fnCode_callB code5) fun hl => ?_
  simp only [List.length_map, maxLen] at hl
  refine fn_walk code5 (by simp) ?_
  (repeat' (first | refine NextAt.mk (fun hc => ?_) (fun pre n v post hc hkey => ?_) | refine Sni.mk (fun hc => ?_) ?_ | refine Both.mk ?_ ?_ | refine AW_seq ?_ | refine AW_block ?_ | ((first | refine AW_reg ?_ | refine AW_cond ?_ | refine AW_skip ?_ | refine AW_exit ?_ | refine AW_ret ?_ | refine AW_regD (by kernel_rfl) ?_ | refine AW_regX (by kernel_rfl) ?_ | refine CallAtG.t (Eq.refl true) ?_ | refine CallAtG.f (Eq.refl false) ?_); try simp (disch := omega) only [go_sem, seval, reduceCtorEq, ↓reduceIte, beq_dec, Int.toNat_natCast, IntKind.signed, IntKind.bits]) | refine And.intro (fun hc => (?_ : AW _ _ _ _)) (fun hc => (?_ : AW _ _ _ _)) | simp (disch := omega) only [go_sem, seval, reduceCtorEq, ↓reduceIte, beq_dec, Int.toNat_natCast, IntKind.signed, IntKind.bits] | (refine And.intro ?_ ?_; focus (first | (intros; omega) | (intros; simp_all; done))) | refine And.intro (?_ : CallAt _ _ _ _ _ _ _ _) ?_ | refine And.intro (?_ : CallAt _ _ _ _ _ _ _ _ ∧ _) ?_ | refine And.intro (?_ : AW _ _ _ _) ?_ | fail))
  refine AW_loopK [0] [2, 3, 4, 5, 6, 7, 8, 9, 10, 11, 12, 13, 14, 15] (fun i : Nat => i ≤ t.length ∧ ∀ j, j < i → (nth t j).length ≤ 20) (fun i => [(3, .I i)]) (fun _ => []) (fun i => t.length - i) 0 ⟨by omega, by omega⟩ ?_ ?_
  · simp (disch := omega) only [go_sem, seval, reduceCtorEq, ↓reduceIte, beq_dec, Int.toNat_natCast, IntKind.signed, IntKind.bits, Int.natCast_zero]
  · rintro i ⟨hi, hb⟩
    (repeat' (first | refine NextAt.mk (fun hc => ?_) (fun pre n v post hc hkey => ?_) | refine Sni.mk (fun hc => ?_) ?_ | refine Both.mk ?_ ?_ | refine AW_seq ?_ | refine AW_block ?_ | ((first | refine AW_reg ?_ | refine AW_cond ?_ | refine AW_skip ?_ | refine AW_exit ?_ | refine AW_ret ?_ | refine AW_regD (by kernel_rfl) ?_ | refine AW_regX (by kernel_rfl) ?_ | refine CallAtG.t (Eq.refl true) ?_ | refine CallAtG.f (Eq.refl false) ?_); try simp (disch := omega) only [go_sem, seval, reduceCtorEq, ↓reduceIte, beq_dec, Int.toNat_natCast, IntKind.signed, IntKind.bits, getD_map (fun r : List Int => [Row r])]) | refine And.intro (fun hc => (?_ : AW _ _ _ _)) (fun hc => (?_ : AW _ _ _ _)) | simp (disch := omega) only [go_sem, seval, reduceCtorEq, ↓reduceIte, beq_dec, Int.toNat_natCast, IntKind.signed, IntKind.bits, getD_map (fun r : List Int => [Row r])] | (refine And.intro ?_ ?_; focus (first | (intros; omega) | (intros; simp_all; done))) | refine And.intro (?_ : CallAt _ _ _ _ _ _ _ _) ?_ | refine And.intro (?_ : CallAt _ _ _ _ _ _ _ _ ∧ _) ?_ | refine And.intro (?_ : AW _ _ _ _) ?_ | fail))
    · unfold fewB
      rw [eq_comm, decide_eq_false_iff_not]
      exact fun h => absurd (h.2 i (by omega)) (by omega)
    · refine .mk (i + 1) ⟨by omega, step_lt hb (by omega)⟩ (by omega) ?_
      simp (disch := omega) only [go_sem, seval, reduceCtorEq, ↓reduceIte, beq_dec, Int.toNat_natCast, IntKind.signed, IntKind.bits, Int.natCast_add, Int.natCast_one]
    · unfold fewB
      rw [decide_eq_decide]
      exact ⟨fun h => ⟨by omega, fun j hj => hb j (by omega)⟩, fun h => by omega⟩
def awT : List (List Int) := [[0, 1], [1, 2], [2, 3], [0, 3]]
theorem aw1 : validT 4 awT = true := by decide +kernel
theorem aw2 : leastV 4 awT = ([0, 1, 2, 3], 1) := by decide +kernel
theorem aw3 : runErr 4 awT [0, 2, 1, 3] = 0 := by decide +kernel
theorem aw4 : gapsV 4 awT [0, 2, 1, 3] = 3 := by decide +kernel
theorem v11 : FnR Try.prog 4 [] [.c (.B true)] := by
  have g13 := w13 4 awT
  unfold leastD leastG valE at g13
  rw [aw1, aw2] at g13
  simp only [if_true] at g13
  have g16 := v16 4 awT [0, 2, 1, 3] (by simp)
  rw [aw3, aw4] at g16
  have g19 := v19 [1, 2] (by simp)
  have g43a := f43 [0, 1, 2, 3] [0, 1, 2, 3]
  have g43b := f43 [2, 1] [2, 1]
  simp only [decide_true] at g43a g43b
  simp only [awT, RV.froze, Row, Tab, List.map_cons, List.map_nil] at g13 g16 g43a g43b
  simp only [Row, ORow, List.reverse_cons, List.reverse_nil, List.nil_append, List.cons_append, List.map_cons, List.map_nil] at g19
  refine fn_walk code4 (by simp) ?_
  (repeat' (first | refine NextAt.mk (fun hc => ?_) (fun pre n v post hc hkey => ?_) | refine Sni.mk (fun hc => ?_) ?_ | refine Both.mk ?_ ?_ | refine AW_seq ?_ | refine AW_block ?_ | ((first | refine AW_reg ?_ | refine AW_cond ?_ | refine AW_skip ?_ | refine AW_exit ?_ | refine AW_ret ?_ | refine AW_regD (by kernel_rfl) ?_ | refine AW_regX (by kernel_rfl) ?_ | refine CallAtG.t (Eq.refl true) ?_ | refine CallAtG.f (Eq.refl false) ?_); try simp (disch := omega) only [go_sem, seval, reduceCtorEq, ↓reduceIte, beq_dec, Int.toNat_natCast, IntKind.signed, IntKind.bits]) | refine And.intro (fun hc => (?_ : AW _ _ _ _)) (fun hc => (?_ : AW _ _ _ _)) | simp (disch := omega) only [go_sem, seval, reduceCtorEq, ↓reduceIte, beq_dec, Int.toNat_natCast, IntKind.signed, IntKind.bits] | (refine And.intro ?_ ?_; focus (first | (intros; omega) | (intros; simp_all; done))) | refine And.intro (?_ : CallAt _ _ _ _ _ _ _ _) ?_ | refine And.intro (?_ : CallAt _ _ _ _ _ _ _ _ ∧ _) ?_ | refine And.intro (?_ : AW _ _ _ _) ?_ | fail))
  refine CallAt.frz [11] ?_
  simp (disch := omega) only [go_sem, seval, reduceCtorEq, ↓reduceIte, beq_dec, Int.toNat_natCast, IntKind.signed, IntKind.bits]
  (repeat' (first | refine NextAt.mk (fun hc => ?_) (fun pre n v post hc hkey => ?_) | refine Sni.mk (fun hc => ?_) ?_ | refine Both.mk ?_ ?_ | refine AW_seq ?_ | refine AW_block ?_ | ((first | refine AW_reg ?_ | refine AW_cond ?_ | refine AW_skip ?_ | refine AW_exit ?_ | refine AW_ret ?_ | refine AW_regD (by kernel_rfl) ?_ | refine AW_regX (by kernel_rfl) ?_ | refine CallAtG.t (Eq.refl true) ?_ | refine CallAtG.f (Eq.refl false) ?_ | refine CallAt.mk _ (g13 ..) (by first | (intro h; cases h; done) | (intro _; repeat' (first | exact List.forall_mem_nil _ | trivial | refine List.forall_mem_cons.2 ⟨?_, ?_⟩)) | (intro _; simp [RV.flatP, CD.flatP]; done)) ?_ | refine CallAtG.mk _ (fun _ => g13 ..) ?_ | refine CallDS.mk _ (by simp [RV.data]) (fun _ => g13 ..) (by first | (intro h; cases h; done) | (intro _; repeat' (first | exact List.forall_mem_nil _ | trivial | refine List.forall_mem_cons.2 ⟨?_, ?_⟩)) | (intro _; simp [RV.flatP, CD.flatP]; done)) ?_ | refine CallAt.mk _ (g16 ..) (by first | (intro h; cases h; done) | (intro _; repeat' (first | exact List.forall_mem_nil _ | trivial | refine List.forall_mem_cons.2 ⟨?_, ?_⟩)) | (intro _; simp [RV.flatP, CD.flatP]; done)) ?_ | refine CallAtG.mk _ (fun _ => g16 ..) ?_ | refine CallDS.mk _ (by simp [RV.data]) (fun _ => g16 ..) (by first | (intro h; cases h; done) | (intro _; repeat' (first | exact List.forall_mem_nil _ | trivial | refine List.forall_mem_cons.2 ⟨?_, ?_⟩)) | (intro _; simp [RV.flatP, CD.flatP]; done)) ?_ | refine CallAt.mk _ (g19 ..) (by first | (intro h; cases h; done) | (intro _; repeat' (first | exact List.forall_mem_nil _ | trivial | refine List.forall_mem_cons.2 ⟨?_, ?_⟩)) | (intro _; simp [RV.flatP, CD.flatP]; done)) ?_ | refine CallAtG.mk _ (fun _ => g19 ..) ?_ | refine CallDS.mk _ (by simp [RV.data]) (fun _ => g19 ..) (by first | (intro h; cases h; done) | (intro _; repeat' (first | exact List.forall_mem_nil _ | trivial | refine List.forall_mem_cons.2 ⟨?_, ?_⟩)) | (intro _; simp [RV.flatP, CD.flatP]; done)) ?_ | refine CallAt.mk _ (g43a ..) (by first | (intro h; cases h; done) | (intro _; repeat' (first | exact List.forall_mem_nil _ | trivial | refine List.forall_mem_cons.2 ⟨?_, ?_⟩)) | (intro _; simp [RV.flatP, CD.flatP]; done)) ?_ | refine CallAtG.mk _ (fun _ => g43a ..) ?_ | refine CallDS.mk _ (by simp [RV.data]) (fun _ => g43a ..) (by first | (intro h; cases h; done) | (intro _; repeat' (first | exact List.forall_mem_nil _ | trivial | refine List.forall_mem_cons.2 ⟨?_, ?_⟩)) | (intro _; simp [RV.flatP, CD.flatP]; done)) ?_ | refine CallAt.mk _ (g43b ..) (by first | (intro h; cases h; done) | (intro _; repeat' (first | exact List.forall_mem_nil _ | trivial | refine List.forall_mem_cons.2 ⟨?_, ?_⟩)) | (intro _; simp [RV.flatP, CD.flatP]; done)) ?_ | refine CallAtG.mk _ (fun _ => g43b ..) ?_ | refine CallDS.mk _ (by simp [RV.data]) (fun _ => g43b ..) (by first | (intro h; cases h; done) | (intro _; repeat' (first | exact List.forall_mem_nil _ | trivial | refine List.forall_mem_cons.2 ⟨?_, ?_⟩)) | (intro _; simp [RV.flatP, CD.flatP]; done)) ?_); try simp (disch := omega) only [go_sem, seval, reduceCtorEq, ↓reduceIte, beq_dec, Int.toNat_natCast, IntKind.signed, IntKind.bits]) | refine And.intro (fun hc => (?_ : AW _ _ _ _)) (fun hc => (?_ : AW _ _ _ _)) | simp (disch := omega) only [go_sem, seval, reduceCtorEq, ↓reduceIte, beq_dec, Int.toNat_natCast, IntKind.signed, IntKind.bits] | (refine And.intro ?_ ?_; focus (first | (intros; omega) | (intros; simp_all; done))) | refine And.intro (?_ : CallAt _ _ _ _ _ _ _ _) ?_ | refine And.intro (?_ : CallAt _ _ _ _ _ _ _ _ ∧ _) ?_ | refine And.intro (?_ : AW _ _ _ _) ?_ | fail))
end Go.Proofs.Ytciglfmfemidnaa

