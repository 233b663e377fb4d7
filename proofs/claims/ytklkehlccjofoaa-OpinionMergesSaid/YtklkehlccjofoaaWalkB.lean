/-
  Lemmas for the proof: no statement of its own.
-/
import Derived.Test.YtklkehlccjofoaaWalkA
import Derived.Test.YtklkehlccjofoaaAlD
set_option linter.unusedVariables false
set_option linter.unusedSimpArgs false
-- P p_12.txt
open Go Go.AL Go.RowKit Go.Shelf
namespace Go.Proofs.Ytklkehlccjofoaa
set_option maxRecDepth 20000

/-! ### tables -/
abbrev Tab := List (Int × Sd)
def sdM (m : Tab) : List (List Int × Sum CD (List CD)) := m.map fun p => ([p.1], .inr p.2.cd)
def lookS : Tab → Int → Sd
  | [], _ => ⟨0, false⟩
  | p :: r, k => if p.1 = k then p.2 else lookS r k
def setS : Tab → Int → Sd → Tab
  | [], k, s => [(k, s)]
  | p :: r, k, s => if p.1 = k then (p.1, s) :: r else p :: setS r k s
theorem sdM_look (k : Int) : ∀ m : Tab, argAV ((mlook (sdM m) [k]).getD (.inr [.sc (.int .i64 0), .sc (.bool false)])) = (lookS m k).av
  | [] => rfl
  | p :: r => by
    have ih := sdM_look k r
    simp only [sdM, List.map_cons, mlook] at ih ⊢
    by_cases h : p.1 = k
    · have e : [k] = [p.1] := by rw [h]
      simp [lookS, h, argAV, Sd.cd]
    · have hne : ¬ [k] = [p.1] := fun e => h (by simpa using e.symm)
      simp only [hne, if_false, ih, lookS, h]
theorem sdM_set (k : Int) (s : Sd) : ∀ m : Tab, mset (sdM m) [k] (.inr s.cd) = sdM (setS m k s)
  | [] => rfl
  | p :: r => by
    have ih := sdM_set k s r
    simp only [sdM, List.map_cons, mset] at ih ⊢
    by_cases h : p.1 = k
    · simp [setS, h]
    · have hne : ¬ [k] = [p.1] := fun e => h (by simpa using e.symm)
      simp [hne, ih, setS, h]
theorem sdM_keys (m : Tab) : keysI (sdM m) = m.map Prod.fst := by
  unfold keysI sdM; rw [List.map_map]; rfl
theorem sdM_nd {m : Tab} (h : (m.map Prod.fst).Nodup) : ((sdM m).map Prod.fst).Nodup := by
  unfold sdM
  rw [List.map_map, List.nodup_iff_pairwise_ne, List.pairwise_map]
  rw [List.nodup_iff_pairwise_ne, List.pairwise_map] at h
  exact h.imp fun hne e => hne (by simpa using e)
theorem sdM_len (m : Tab) : (sdM m).length = m.length := by simp [sdM]
theorem setS_keys (k : Int) (s : Sd) : ∀ m : Tab, (setS m k s).map Prod.fst = if k ∈ m.map Prod.fst then m.map Prod.fst else m.map Prod.fst ++ [k]
  | [] => rfl
  | p :: r => by
    have ih := setS_keys k s r
    unfold setS
    by_cases h : p.1 = k
    · simp [h]
    · have h' : ¬ k = p.1 := fun e => h e.symm
      simp only [h, if_false, List.map_cons, ih, List.mem_cons, h', false_or]
      split <;> simp
theorem setS_nd {m : Tab} (h : (m.map Prod.fst).Nodup) (k : Int) (s : Sd) : ((setS m k s).map Prod.fst).Nodup := by
  rw [setS_keys]
  split
  · exact h
  · rename_i hni
    rw [List.nodup_append]
    refine ⟨h, by simp, fun a ha b hb e => ?_⟩
    rw [e, List.mem_singleton.1 hb] at ha; exact hni ha
theorem lookS_set (k j : Int) (s : Sd) : ∀ m : Tab, lookS (setS m k s) j = if j = k then s else lookS m j
  | [] => by
    by_cases h : k = j
    · simp [setS, lookS, h]
    · have h' : ¬ j = k := fun e => h e.symm
      simp [setS, lookS, h, h']
  | p :: r => by
    have ih := lookS_set k j s r
    unfold setS
    by_cases h : p.1 = k
    · rw [if_pos h]
      by_cases hj : p.1 = j
      · simp only [lookS, hj, if_true]
        rw [if_pos (hj.symm.trans h)]
      · simp only [lookS, if_neg hj]
        rw [if_neg (fun e => hj (h.trans e.symm))]
    · rw [if_neg h]
      simp only [lookS, ih]
      by_cases hj : p.1 = j
      · rw [if_pos hj, if_pos hj, if_neg (fun e => h (hj.trans e))]
      · rw [if_neg hj, if_neg hj]
def tabS (l : List (Int × Int)) : Tab := l.map fun p => (p.1, ⟨p.2, true⟩)
theorem tabS_look (l : List (Int × Int)) (k : Int) : lookS (tabS l) k = atR l k := by
  induction l with
  | nil => rfl
  | cons p r ih =>
    simp only [tabS, List.map_cons, lookS, atR] at ih ⊢
    rw [ih]
theorem tabS_keys (l : List (Int × Int)) : (tabS l).map Prod.fst = l.map Prod.fst := by
  unfold tabS; rw [List.map_map]; rfl
theorem validE_pw {l : List (Int × Int)} (h : validE l = true) : (l.map Prod.fst).Pairwise (· < ·) := by
  unfold validE at h
  rw [decide_eq_true_eq] at h
  obtain ⟨_, h⟩ := h
  rw [List.pairwise_map, List.pairwise_iff_getElem]
  intro i j hi hj hij
  obtain ⟨d, rfl⟩ : ∃ d, j = i + 1 + d := ⟨j - (i + 1), by omega⟩
  induction d with
  | zero =>
    have := h (i + 1) hj (by omega)
    rw [show i + 1 - 1 = i by omega, nth_eq l i hi, nth_eq l (i + 1) hj] at this
    exact this
  | succ d ih =>
    have h1 := ih (by omega) (by omega)
    have := h (i + 1 + (d + 1)) hj (by omega)
    rw [show i + 1 + (d + 1) - 1 = i + 1 + d by omega, nth_eq l _ (by omega), nth_eq l _ hj] at this
    omega
theorem validE_nd {l : List (Int × Int)} (h : validE l = true) : (l.map Prod.fst).Nodup := by
  rw [List.nodup_iff_pairwise_ne]
  exact (validE_pw h).imp fun h => by omega
theorem validE_len {l : List (Int × Int)} (h : validE l = true) : l.length ≤ 64 := by
  unfold validE at h
  rw [decide_eq_true_eq] at h
  exact h.1
theorem setS_new : ∀ {m : Tab} {k : Int} {s : Sd}, k ∉ m.map Prod.fst → setS m k s = m ++ [(k, s)]
  | [], k, s, _ => rfl
  | p :: r, k, s, h => by
    simp only [List.map_cons, List.mem_cons, not_or] at h
    have : ¬ p.1 = k := fun e => h.1 e.symm
    unfold setS
    rw [if_neg this, setS_new h.2]; rfl
theorem tabS_succ {l : List (Int × Int)} (h : validE l = true) {i : Nat} (hi : i < l.length) : setS (tabS (l.take i)) (nth l i).1 ⟨(nth l i).2, true⟩ = tabS (l.take (i + 1)) := by
  rw [setS_new, List.take_succ_eq_append_getElem hi, nth_eq l i hi]
  · unfold tabS; rw [List.map_append]; rfl
  · rw [tabS_keys]
    intro hm
    have hpw := validE_pw h
    obtain ⟨p, hp, e⟩ := List.mem_map.1 hm
    obtain ⟨j, hj, rfl⟩ := List.getElem_of_mem hp
    rw [List.getElem_take, nth_eq l i hi] at e
    rw [List.pairwise_map, List.pairwise_iff_getElem] at hpw
    have hj' : j < i := by rw [List.length_take] at hj; omega
    have := hpw j i (by omega) hi hj'
    omega
set_option maxHeartbeats 1000000 in
theorem f31 (l : List (Int × Int)) (hv : validE l = true) : FnP Try.prog 31 [.c (EL l)] [] 6 [(6, .map (.one .i64) (sdM (tabS l)))] [] := by
  have hl := validE_len hv
  refine fn_walkP code31 (by simp) (by rfl) ⟨_, rfl⟩ ?_
  (repeat' (first | refine NextAt.mk (fun hc => ?_) (fun pre n v post hc hkey => ?_) | refine Sni.mk (fun hc => ?_) ?_ | refine Both.mk ?_ ?_ | refine AW_seq ?_ | refine AW_block ?_ | ((first | refine AW_reg ?_ | refine AW_cond ?_ | refine AW_skip ?_ | refine AW_exit ?_ | refine AW_ret ?_ | refine AW_regD (by kernel_rfl) ?_ | refine AW_regX (by kernel_rfl) ?_ | refine CallAtG.t (Eq.refl true) ?_ | refine CallAtG.f (Eq.refl false) ?_); try simp (disch := omega) only [go_sem, Nat.reduceLT, Nat.reduceAdd, Nat.reduceSub, Nat.reduceMul, Nat.reduceMod, Nat.reduceDiv, Nat.reduceBEq, Nat.reduceEqDiff, Nat.reduceLeDiff, reduceCtorEq, ↓reduceIte, beq_dec, Int.reduceToNat, Int.reduceLT, Int.reduceLE, Int.reduceAdd, Int.reduceSub, Int.reduceMul, Int.reduceEq, Int.reduceNeg, Int.reduceNe, Int.toNat_natCast, IntKind.signed, IntKind.bits, Int.reducePow, Nat.reducePow]) | refine And.intro (fun hc => (?_ : AW _ _ _ _)) (fun hc => (?_ : AW _ _ _ _)) | simp (disch := omega) only [go_sem, Nat.reduceLT, Nat.reduceAdd, Nat.reduceSub, Nat.reduceMul, Nat.reduceMod, Nat.reduceDiv, Nat.reduceBEq, Nat.reduceEqDiff, Nat.reduceLeDiff, reduceCtorEq, ↓reduceIte, beq_dec, Int.reduceToNat, Int.reduceLT, Int.reduceLE, Int.reduceAdd, Int.reduceSub, Int.reduceMul, Int.reduceEq, Int.reduceNeg, Int.reduceNe, Int.toNat_natCast, IntKind.signed, IntKind.bits, Int.reducePow, Nat.reducePow] | (refine And.intro ?_ ?_; focus (first | (intros; omega) | (intros; simp_all; done))) | refine And.intro (?_ : CallAt _ _ _ _ _ _ _ _) ?_ | refine And.intro (?_ : CallAt _ _ _ _ _ _ _ _ ∧ _) ?_ | refine And.intro (?_ : AW _ _ _ _) ?_ | fail))
  refine AW_loopK [3, 7, 8] [5, 9, 10, 11, 12, 13, 14, 15, 16, 17, 18, 19] (fun i : Nat => i ≤ l.length) (fun i => [(9, .I i)]) (fun i => [(6, .map (.one .i64) (sdM (tabS (l.take i))))]) (fun i => l.length - i) 0 (by omega) ?_ ?_
  · simp (disch := omega) only [go_sem, Nat.reduceLT, Nat.reduceAdd, Nat.reduceSub, Nat.reduceMul, Nat.reduceMod, Nat.reduceDiv, Nat.reduceBEq, Nat.reduceEqDiff, Nat.reduceLeDiff, reduceCtorEq, ↓reduceIte, beq_dec, Int.reduceToNat, Int.reduceLT, Int.reduceLE, Int.reduceAdd, Int.reduceSub, Int.reduceMul, Int.reduceEq, Int.reduceNeg, Int.reduceNe, Int.toNat_natCast, IntKind.signed, IntKind.bits, Int.reducePow, Nat.reducePow, Int.natCast_zero, List.take_zero, tabS, sdM, List.map_nil]
  · intro i hi
    (repeat' (first | refine NextAt.mk (fun hc => ?_) (fun pre n v post hc hkey => ?_) | refine Sni.mk (fun hc => ?_) ?_ | refine Both.mk ?_ ?_ | refine AW_seq ?_ | refine AW_block ?_ | ((first | refine AW_reg ?_ | refine AW_cond ?_ | refine AW_skip ?_ | refine AW_exit ?_ | refine AW_ret ?_ | refine AW_regD (by kernel_rfl) ?_ | refine AW_regX (by kernel_rfl) ?_ | refine CallAtG.t (Eq.refl true) ?_ | refine CallAtG.f (Eq.refl false) ?_); try simp (disch := omega) only [go_sem, Nat.reduceLT, Nat.reduceAdd, Nat.reduceSub, Nat.reduceMul, Nat.reduceMod, Nat.reduceDiv, Nat.reduceBEq, Nat.reduceEqDiff, Nat.reduceLeDiff, reduceCtorEq, ↓reduceIte, beq_dec, Int.reduceToNat, Int.reduceLT, Int.reduceLE, Int.reduceAdd, Int.reduceSub, Int.reduceMul, Int.reduceEq, Int.reduceNeg, Int.reduceNe, Int.toNat_natCast, IntKind.signed, IntKind.bits, Int.reducePow, Nat.reducePow, getD_map cdE, cdE]) | refine And.intro (fun hc => (?_ : AW _ _ _ _)) (fun hc => (?_ : AW _ _ _ _)) | simp (disch := omega) only [go_sem, Nat.reduceLT, Nat.reduceAdd, Nat.reduceSub, Nat.reduceMul, Nat.reduceMod, Nat.reduceDiv, Nat.reduceBEq, Nat.reduceEqDiff, Nat.reduceLeDiff, reduceCtorEq, ↓reduceIte, beq_dec, Int.reduceToNat, Int.reduceLT, Int.reduceLE, Int.reduceAdd, Int.reduceSub, Int.reduceMul, Int.reduceEq, Int.reduceNeg, Int.reduceNe, Int.toNat_natCast, IntKind.signed, IntKind.bits, Int.reducePow, Nat.reducePow, getD_map cdE, cdE] | (refine And.intro ?_ ?_; focus (first | (intros; omega) | (intros; simp_all; done))) | refine And.intro (?_ : CallAt _ _ _ _ _ _ _ _) ?_ | refine And.intro (?_ : CallAt _ _ _ _ _ _ _ _ ∧ _) ?_ | refine And.intro (?_ : AW _ _ _ _) ?_ | fail))
    · refine .mk (i + 1) (by omega) (by omega) ?_
      have e := sdM_set (nth l i).1 ⟨(nth l i).2, true⟩ (tabS (l.take i))
      rw [tabS_succ hv (by omega)] at e
      simp only [Sd.cd] at e
      simp (disch := omega) only [go_sem, Nat.reduceLT, Nat.reduceAdd, Nat.reduceSub, Nat.reduceMul, Nat.reduceMod, Nat.reduceDiv, Nat.reduceBEq, Nat.reduceEqDiff, Nat.reduceLeDiff, reduceCtorEq, ↓reduceIte, beq_dec, Int.reduceToNat, Int.reduceLT, Int.reduceLE, Int.reduceAdd, Int.reduceSub, Int.reduceMul, Int.reduceEq, Int.reduceNeg, Int.reduceNe, Int.toNat_natCast, IntKind.signed, IntKind.bits, Int.reducePow, Nat.reducePow, Int.natCast_add, Int.natCast_one, e]
    · have hil : i = l.length := by omega
      rw [hil, List.take_length]
def sw (a b : Nat) (i : Nat) : Nat := if i = a then b else if i = b then a else i
theorem sw_sw (a b i : Nat) : sw a b (sw a b i) = i := by
  unfold sw; repeat' split
  all_goals omega
theorem f31q (q : Nat) (l : List (Int × Int)) (hv : validE l = true) : FnP Try.prog 31 [.c (EL l)] [] q [(q, .map (.one .i64) (sdM (tabS l)))] [] := by
  have h := FnP.ren (ρ := sw 6 q) (sw_sw 6 q) (f31 l hv)
  have e : sw 6 q 6 = q := by simp [sw]
  simp only [renOb, List.map_nil, AO.ren, renL, AV.ren, e] at h
  exact h
/-- the list of a table -/
def listS (m : Tab) (ks : List Int) : List (Int × Int) := ks.flatMap fun k => if (lookS m k).is then [(k, (lookS m k).v)] else []
theorem listS_succ (m : Tab) (ks : List Int) (i : Nat) (h : i < ks.length) : listS m (ks.take (i + 1)) = listS m (ks.take i) ++ (if (lookS m (nth ks i)).is then [(nth ks i, (lookS m (nth ks i)).v)] else []) := by
  rw [List.take_succ_eq_append_getElem h, nth_eq ks i h]
  unfold listS
  rw [List.flatMap_append]
  simp only [List.flatMap_cons, List.flatMap_nil, List.append_nil]
theorem listS_len (m : Tab) (ks : List Int) : (listS m ks).length ≤ ks.length := by
  induction ks with
  | nil => simp [listS]
  | cons k r ih =>
    have e : listS m (k :: r) = (if (lookS m k).is then [(k, (lookS m k).v)] else []) ++ listS m r := by unfold listS; rw [List.flatMap_cons]
    rw [e, List.length_append]
    split <;> simp only [List.length_cons, List.length_nil] <;> omega
theorem insAll_nodup_len {l : List Int} : (insAll l).length ≤ l.length := nodup_len (by rw [List.nodup_iff_pairwise_ne]; exact (insAll_pw l).imp fun h => by omega) fun x hx => (insAll_mem l x).1 hx
def allS (m : Tab) : List (Int × Int) := listS m (insAll (m.map Prod.fst))
set_option maxHeartbeats 1000000 in
theorem f37 (m : Tab) (hnd : (m.map Prod.fst).Nodup) (hl : m.length ≤ 100000) : FnR Try.prog 37 [.c (MP (sdM m))] [.own 43 2 ((allS m).map cdE)] := by
  have g := s55 7 (sdM m) (sdM_nd hnd) (by rw [sdM_len]; omega)
  rw [sortK_eq (l := m.map Prod.fst) (by rw [sdM_keys]; exact hnd) (by rw [sdM_keys]; exact fun x => Iff.rfl)] at g
  have hKl : (insAll (m.map Prod.fst)).length ≤ 100000 := Nat.le_trans insAll_nodup_len (by simpa using hl)
  have hKl' : (insAll (m.map Prod.fst)).length ≤ 2 ^ 63 - 1 := by omega
  refine fn_walk code37 (by simp) ?_
  (repeat' (first | refine NextAt.mk (fun hc => ?_) (fun pre n v post hc hkey => ?_) | refine Sni.mk (fun hc => ?_) ?_ | refine Both.mk ?_ ?_ | refine AW_seq ?_ | refine AW_block ?_ | ((first | refine AW_reg ?_ | refine AW_cond ?_ | refine AW_skip ?_ | refine AW_exit ?_ | refine AW_ret ?_ | refine AW_regD (by kernel_rfl) ?_ | refine AW_regX (by kernel_rfl) ?_ | refine CallAtG.t (Eq.refl true) ?_ | refine CallAtG.f (Eq.refl false) ?_); try simp (disch := omega) only [go_sem, Nat.reduceLT, Nat.reduceAdd, Nat.reduceSub, Nat.reduceMul, Nat.reduceMod, Nat.reduceDiv, Nat.reduceBEq, Nat.reduceEqDiff, Nat.reduceLeDiff, reduceCtorEq, ↓reduceIte, beq_dec, Int.reduceToNat, Int.reduceLT, Int.reduceLE, Int.reduceAdd, Int.reduceSub, Int.reduceMul, Int.reduceEq, Int.reduceNeg, Int.reduceNe, Int.toNat_natCast, IntKind.signed, IntKind.bits, Int.reducePow, Nat.reducePow]) | refine And.intro (fun hc => (?_ : AW _ _ _ _)) (fun hc => (?_ : AW _ _ _ _)) | simp (disch := omega) only [go_sem, Nat.reduceLT, Nat.reduceAdd, Nat.reduceSub, Nat.reduceMul, Nat.reduceMod, Nat.reduceDiv, Nat.reduceBEq, Nat.reduceEqDiff, Nat.reduceLeDiff, reduceCtorEq, ↓reduceIte, beq_dec, Int.reduceToNat, Int.reduceLT, Int.reduceLE, Int.reduceAdd, Int.reduceSub, Int.reduceMul, Int.reduceEq, Int.reduceNeg, Int.reduceNe, Int.toNat_natCast, IntKind.signed, IntKind.bits, Int.reducePow, Nat.reducePow] | (refine And.intro ?_ ?_; focus (first | (intros; omega) | (intros; simp_all; done))) | refine And.intro (?_ : CallAt _ _ _ _ _ _ _ _) ?_ | refine And.intro (?_ : CallAt _ _ _ _ _ _ _ _ ∧ _) ?_ | refine And.intro (?_ : AW _ _ _ _) ?_ | fail))
  refine CallAt.fb _ _ _ (k50 (sdM m)) (by rfl) (one_mp _ _) ?_
  (repeat' (first | refine NextAt.mk (fun hc => ?_) (fun pre n v post hc hkey => ?_) | refine Sni.mk (fun hc => ?_) ?_ | refine Both.mk ?_ ?_ | refine AW_seq ?_ | refine AW_block ?_ | ((first | refine AW_reg ?_ | refine AW_cond ?_ | refine AW_skip ?_ | refine AW_exit ?_ | refine AW_ret ?_ | refine AW_regD (by kernel_rfl) ?_ | refine AW_regX (by kernel_rfl) ?_ | refine CallAt.mkW (g ..) (by rfl) (by simp (disch := omega) only [go_sem, Nat.reduceLT, Nat.reduceAdd, Nat.reduceSub, Nat.reduceMul, Nat.reduceMod, Nat.reduceDiv, Nat.reduceBEq, Nat.reduceEqDiff, Nat.reduceLeDiff, reduceCtorEq, ↓reduceIte, beq_dec, Int.reduceToNat, Int.reduceLT, Int.reduceLE, Int.reduceAdd, Int.reduceSub, Int.reduceMul, Int.reduceEq, Int.reduceNeg, Int.reduceNe, Int.toNat_natCast, IntKind.signed, IntKind.bits, Int.reducePow, Nat.reducePow, maxLen]) (by rfl) (by rfl) (by first | (intro h; cases h; done) | (intro _; simp [RV.flatP, CD.flatP, flatOb, AO.flatP, maxLen]; done)) ?_ | refine CallAtG.t (Eq.refl true) ?_ | refine CallAtG.f (Eq.refl false) ?_); try simp (disch := omega) only [go_sem, Nat.reduceLT, Nat.reduceAdd, Nat.reduceSub, Nat.reduceMul, Nat.reduceMod, Nat.reduceDiv, Nat.reduceBEq, Nat.reduceEqDiff, Nat.reduceLeDiff, reduceCtorEq, ↓reduceIte, beq_dec, Int.reduceToNat, Int.reduceLT, Int.reduceLE, Int.reduceAdd, Int.reduceSub, Int.reduceMul, Int.reduceEq, Int.reduceNeg, Int.reduceNe, Int.toNat_natCast, IntKind.signed, IntKind.bits, Int.reducePow, Nat.reducePow, maxLen]) | refine And.intro (fun hc => (?_ : AW _ _ _ _)) (fun hc => (?_ : AW _ _ _ _)) | simp (disch := omega) only [go_sem, Nat.reduceLT, Nat.reduceAdd, Nat.reduceSub, Nat.reduceMul, Nat.reduceMod, Nat.reduceDiv, Nat.reduceBEq, Nat.reduceEqDiff, Nat.reduceLeDiff, reduceCtorEq, ↓reduceIte, beq_dec, Int.reduceToNat, Int.reduceLT, Int.reduceLE, Int.reduceAdd, Int.reduceSub, Int.reduceMul, Int.reduceEq, Int.reduceNeg, Int.reduceNe, Int.toNat_natCast, IntKind.signed, IntKind.bits, Int.reducePow, Nat.reducePow, maxLen] | (refine And.intro ?_ ?_; focus (first | (intros; omega) | (intros; simp_all; done))) | refine And.intro (?_ : CallAt _ _ _ _ _ _ _ _) ?_ | refine And.intro (?_ : CallAt _ _ _ _ _ _ _ _ ∧ _) ?_ | refine And.intro (?_ : AW _ _ _ _) ?_ | fail))
  unfold allS
  generalize insAll (m.map Prod.fst) = K at hKl hKl' ⊢
  refine AW_nil 3 900 43 2 (by rfl) ?_
  refine AW_loopK [0, 8, 9] [3, 5, 10, 11, 12, 13, 14, 15, 16, 17, 18, 19, 20, 21, 22, 23, 24, 25, 26, 27] (fun i : Nat => i ≤ K.length) (fun i => [(3, .own 900), (10, .I i)]) (fun i => [(900, .arr 43 2 ((listS m (K.take i)).map cdE))]) (fun i => K.length - i) 0 (by omega) ?_ ?_
  · simp (disch := omega) only [go_sem, Nat.reduceLT, Nat.reduceAdd, Nat.reduceSub, Nat.reduceMul, Nat.reduceMod, Nat.reduceDiv, Nat.reduceBEq, Nat.reduceEqDiff, Nat.reduceLeDiff, reduceCtorEq, ↓reduceIte, beq_dec, Int.reduceToNat, Int.reduceLT, Int.reduceLE, Int.reduceAdd, Int.reduceSub, Int.reduceMul, Int.reduceEq, Int.reduceNeg, Int.reduceNe, Int.toNat_natCast, IntKind.signed, IntKind.bits, Int.reducePow, Nat.reducePow, Int.natCast_zero, List.take_zero, listS, List.flatMap_nil, List.map_nil]
  · intro i hi
    have hb := listS_len m (K.take i)
    have hb2 : (K.take i).length ≤ K.length := by simp; omega
    (repeat' (first | refine NextAt.mk (fun hc => ?_) (fun pre n v post hc hkey => ?_) | refine Sni.mk (fun hc => ?_) ?_ | refine Both.mk ?_ ?_ | refine AW_seq ?_ | refine AW_block ?_ | ((first | refine AW_reg ?_ | refine AW_cond ?_ | refine AW_skip ?_ | refine AW_exit ?_ | refine AW_ret ?_ | refine AW_regD (by kernel_rfl) ?_ | refine AW_regX (by kernel_rfl) ?_ | refine CallAtG.t (Eq.refl true) ?_ | refine CallAtG.f (Eq.refl false) ?_); try simp (disch := omega) only [go_sem, Nat.reduceLT, Nat.reduceAdd, Nat.reduceSub, Nat.reduceMul, Nat.reduceMod, Nat.reduceDiv, Nat.reduceBEq, Nat.reduceEqDiff, Nat.reduceLeDiff, reduceCtorEq, ↓reduceIte, beq_dec, Int.reduceToNat, Int.reduceLT, Int.reduceLE, Int.reduceAdd, Int.reduceSub, Int.reduceMul, Int.reduceEq, Int.reduceNeg, Int.reduceNe, Int.toNat_natCast, IntKind.signed, IntKind.bits, Int.reducePow, Nat.reducePow, getD_map (fun x : Int => [CD.I x]), sdM_look, List.length_append, List.length_map, maxLen]) | refine And.intro (fun hc => (?_ : AW _ _ _ _)) (fun hc => (?_ : AW _ _ _ _)) | simp (disch := omega) only [go_sem, Nat.reduceLT, Nat.reduceAdd, Nat.reduceSub, Nat.reduceMul, Nat.reduceMod, Nat.reduceDiv, Nat.reduceBEq, Nat.reduceEqDiff, Nat.reduceLeDiff, reduceCtorEq, ↓reduceIte, beq_dec, Int.reduceToNat, Int.reduceLT, Int.reduceLE, Int.reduceAdd, Int.reduceSub, Int.reduceMul, Int.reduceEq, Int.reduceNeg, Int.reduceNe, Int.toNat_natCast, IntKind.signed, IntKind.bits, Int.reducePow, Nat.reducePow, getD_map (fun x : Int => [CD.I x]), sdM_look, List.length_append, List.length_map, maxLen] | (refine And.intro ?_ ?_; focus (first | (intros; omega) | (intros; simp_all; done))) | refine And.intro (?_ : CallAt _ _ _ _ _ _ _ _) ?_ | refine And.intro (?_ : CallAt _ _ _ _ _ _ _ _ ∧ _) ?_ | refine And.intro (?_ : AW _ _ _ _) ?_ | fail))
    · refine .mk (i + 1) (by omega) (by omega) ?_
      rw [listS_succ m K i (by omega), if_pos hc]
      simp (disch := omega) only [go_sem, Nat.reduceLT, Nat.reduceAdd, Nat.reduceSub, Nat.reduceMul, Nat.reduceMod, Nat.reduceDiv, Nat.reduceBEq, Nat.reduceEqDiff, Nat.reduceLeDiff, reduceCtorEq, ↓reduceIte, beq_dec, Int.reduceToNat, Int.reduceLT, Int.reduceLE, Int.reduceAdd, Int.reduceSub, Int.reduceMul, Int.reduceEq, Int.reduceNeg, Int.reduceNe, Int.toNat_natCast, IntKind.signed, IntKind.bits, Int.reducePow, Nat.reducePow, Int.natCast_add, Int.natCast_one, List.map_append, cdE]
    · refine .mk (i + 1) (by omega) (by omega) ?_
      rw [listS_succ m K i (by omega), if_neg (by simp [hc]), List.append_nil]
      simp (disch := omega) only [go_sem, Nat.reduceLT, Nat.reduceAdd, Nat.reduceSub, Nat.reduceMul, Nat.reduceMod, Nat.reduceDiv, Nat.reduceBEq, Nat.reduceEqDiff, Nat.reduceLeDiff, reduceCtorEq, ↓reduceIte, beq_dec, Int.reduceToNat, Int.reduceLT, Int.reduceLE, Int.reduceAdd, Int.reduceSub, Int.reduceMul, Int.reduceEq, Int.reduceNeg, Int.reduceNe, Int.toNat_natCast, IntKind.signed, IntKind.bits, Int.reducePow, Nat.reducePow, Int.natCast_add, Int.natCast_one]
    · have hil : i = K.length := by omega
      rw [hil, List.take_length]
end Go.Proofs.Ytklkehlccjofoaa

-- P p_12.txt
open Go Go.AL Go.RowKit Go.Shelf
namespace Go.Proofs.Ytklkehlccjofoaa
set_option maxRecDepth 20000

abbrev ELs (ls : List (List (Int × Int))) : CD := .sl 1 (ls.map fun l => [EL l])
def keysE (ls : List (List (Int × Int))) : List Int := ls.flatMap fun l => l.map Prod.fst
theorem keysE_succ (ls : List (List (Int × Int))) (i : Nat) (h : i < ls.length) : keysE (ls.take (i + 1)) = keysE (ls.take i) ++ (nth ls i).map Prod.fst := by
  rw [List.take_succ_eq_append_getElem h, nth_eq ls i h]
  unfold keysE
  rw [List.flatMap_append]
  simp only [List.flatMap_cons, List.flatMap_nil, List.append_nil]
theorem keysE_take (ls : List (List (Int × Int))) : ∀ i, (keysE (ls.take i)).length ≤ (keysE ls).length := by
  intro i
  have e : keysE ls = keysE (ls.take i) ++ keysE (ls.drop i) := by
    unfold keysE
    rw [← List.flatMap_append, List.take_append_drop]
  rw [e, List.length_append]; omega
theorem Rd_nilRow : ∀ (w : World) (S : Nat → Prop) (v : Value), Rd w S .nil v → Rd w S (Row []) v := fun w S v h => Rd.nil_sl 1 h
def kAt (ls : List (List (Int × Int))) (i k : Nat) : List Int := insAll (keysE (ls.take i) ++ ((nth ls i).take k).map Prod.fst)
theorem kAt_zero (ls : List (List (Int × Int))) (i : Nat) : kAt ls i 0 = insAll (keysE (ls.take i)) := by simp [kAt]
theorem kAt_succ (ls : List (List (Int × Int))) (i k : Nat) (h : k < (nth ls i).length) : kAt ls i (k + 1) = ins (nth (nth ls i) k).1 (kAt ls i k) := by
  unfold kAt
  rw [List.take_succ_eq_append_getElem h, List.map_append, ← List.append_assoc, List.map_cons, List.map_nil, insAll_snoc, nth_eq (nth ls i) k h]
theorem kAt_last (ls : List (List (Int × Int))) (i : Nat) (h : i < ls.length) : kAt ls i (nth ls i).length = insAll (keysE (ls.take (i + 1))) := by
  unfold kAt
  rw [List.take_length, keysE_succ ls i h]
set_option maxHeartbeats 1000000 in
theorem f34 (ls : List (List (Int × Int))) (hlen : (keysE ls).length ≤ 10000) : FnR Try.prog 34 [.c (ELs ls)] [.c (Row (insAll (keysE ls)))] := by
  refine FnR_lens (pre := []) (post := []) (fnCode_callB code34) fun hl hls => ?_
  simp only [List.length_map, maxLen] at hl
  refine fn_walk code34 (by simp) ?_
  (repeat' (first | refine NextAt.mk (fun hc => ?_) (fun pre n v post hc hkey => ?_) | refine Sni.mk (fun hc => ?_) ?_ | refine Both.mk ?_ ?_ | refine AW_seq ?_ | refine AW_block ?_ | ((first | refine AW_reg ?_ | refine AW_cond ?_ | refine AW_skip ?_ | refine AW_exit ?_ | refine AW_ret ?_ | refine AW_regD (by kernel_rfl) ?_ | refine AW_regX (by kernel_rfl) ?_ | refine CallAtG.t (Eq.refl true) ?_ | refine CallAtG.f (Eq.refl false) ?_); try simp (disch := omega) only [go_sem, Nat.reduceLT, Nat.reduceAdd, Nat.reduceSub, Nat.reduceMul, Nat.reduceMod, Nat.reduceDiv, Nat.reduceBEq, Nat.reduceEqDiff, Nat.reduceLeDiff, reduceCtorEq, ↓reduceIte, beq_dec, Int.reduceToNat, Int.reduceLT, Int.reduceLE, Int.reduceAdd, Int.reduceSub, Int.reduceMul, Int.reduceEq, Int.reduceNeg, Int.reduceNe, Int.toNat_natCast, IntKind.signed, IntKind.bits, Int.reducePow, Nat.reducePow]) | refine And.intro (fun hc => (?_ : AW _ _ _ _)) (fun hc => (?_ : AW _ _ _ _)) | simp (disch := omega) only [go_sem, Nat.reduceLT, Nat.reduceAdd, Nat.reduceSub, Nat.reduceMul, Nat.reduceMod, Nat.reduceDiv, Nat.reduceBEq, Nat.reduceEqDiff, Nat.reduceLeDiff, reduceCtorEq, ↓reduceIte, beq_dec, Int.reduceToNat, Int.reduceLT, Int.reduceLE, Int.reduceAdd, Int.reduceSub, Int.reduceMul, Int.reduceEq, Int.reduceNeg, Int.reduceNe, Int.toNat_natCast, IntKind.signed, IntKind.bits, Int.reducePow, Nat.reducePow] | (refine And.intro ?_ ?_; focus (first | (intros; omega) | (intros; simp_all; done))) | refine And.intro (?_ : CallAt _ _ _ _ _ _ _ _) ?_ | refine And.intro (?_ : CallAt _ _ _ _ _ _ _ _ ∧ _) ?_ | refine And.intro (?_ : AW _ _ _ _) ?_ | fail))
  refine AW_up 3 .nil (Row []) rfl Rd_nilRow ?_
  refine AW_loopK [0] [3, 4, 5, 6, 7, 8, 9, 10, 11, 12, 13, 14, 15, 16, 17, 18, 19, 20, 21, 22, 23, 24, 25, 26, 27, 28, 29, 30] (fun i : Nat => i ≤ ls.length) (fun i => [(4, .I i), (3, .c (Row (insAll (keysE (ls.take i)))))]) (fun _ => []) (fun i => ls.length - i) 0 (by omega) ?_ ?_
  · simp (disch := omega) only [go_sem, Nat.reduceLT, Nat.reduceAdd, Nat.reduceSub, Nat.reduceMul, Nat.reduceMod, Nat.reduceDiv, Nat.reduceBEq, Nat.reduceEqDiff, Nat.reduceLeDiff, reduceCtorEq, ↓reduceIte, beq_dec, Int.reduceToNat, Int.reduceLT, Int.reduceLE, Int.reduceAdd, Int.reduceSub, Int.reduceMul, Int.reduceEq, Int.reduceNeg, Int.reduceNe, Int.toNat_natCast, IntKind.signed, IntKind.bits, Int.reducePow, Nat.reducePow, Int.natCast_zero, List.take_zero, keysE, List.flatMap_nil, insAll, List.foldl_nil]
  · intro i hi
    (repeat' (first | refine NextAt.mk (fun hc => ?_) (fun pre n v post hc hkey => ?_) | refine Sni.mk (fun hc => ?_) ?_ | refine Both.mk ?_ ?_ | refine AW_seq ?_ | refine AW_block ?_ | ((first | refine AW_reg ?_ | refine AW_cond ?_ | refine AW_skip ?_ | refine AW_exit ?_ | refine AW_ret ?_ | refine AW_regD (by kernel_rfl) ?_ | refine AW_regX (by kernel_rfl) ?_ | refine CallAtG.t (Eq.refl true) ?_ | refine CallAtG.f (Eq.refl false) ?_); try simp (disch := omega) only [go_sem, Nat.reduceLT, Nat.reduceAdd, Nat.reduceSub, Nat.reduceMul, Nat.reduceMod, Nat.reduceDiv, Nat.reduceBEq, Nat.reduceEqDiff, Nat.reduceLeDiff, reduceCtorEq, ↓reduceIte, beq_dec, Int.reduceToNat, Int.reduceLT, Int.reduceLE, Int.reduceAdd, Int.reduceSub, Int.reduceMul, Int.reduceEq, Int.reduceNeg, Int.reduceNe, Int.toNat_natCast, IntKind.signed, IntKind.bits, Int.reducePow, Nat.reducePow]) | refine And.intro (fun hc => (?_ : AW _ _ _ _)) (fun hc => (?_ : AW _ _ _ _)) | simp (disch := omega) only [go_sem, Nat.reduceLT, Nat.reduceAdd, Nat.reduceSub, Nat.reduceMul, Nat.reduceMod, Nat.reduceDiv, Nat.reduceBEq, Nat.reduceEqDiff, Nat.reduceLeDiff, reduceCtorEq, ↓reduceIte, beq_dec, Int.reduceToNat, Int.reduceLT, Int.reduceLE, Int.reduceAdd, Int.reduceSub, Int.reduceMul, Int.reduceEq, Int.reduceNeg, Int.reduceNe, Int.toNat_natCast, IntKind.signed, IntKind.bits, Int.reducePow, Nat.reducePow] | (refine And.intro ?_ ?_; focus (first | (intros; omega) | (intros; simp_all; done))) | refine And.intro (?_ : CallAt _ _ _ _ _ _ _ _) ?_ | refine And.intro (?_ : CallAt _ _ _ _ _ _ _ _ ∧ _) ?_ | refine And.intro (?_ : AW _ _ _ _) ?_ | fail))
    · have hil : i < ls.length := by omega
      have hll : (nth ls i).length ≤ 2 ^ 63 - 1 := by
        have := hls [EL (nth ls i)] (List.mem_map.2 ⟨nth ls i, nth_mem ls i hil, rfl⟩) 2 ((nth ls i).map cdE) (by simp)
        simpa [maxLen] using this
      refine AW_loopK [0, 4] [3, 5, 12, 13, 14, 15, 16, 17, 18, 19, 20, 21, 22, 23, 24, 25, 26, 27, 28, 29, 30] (fun k : Nat => k ≤ (nth ls i).length) (fun k => [(5, .I k), (3, .c (Row (kAt ls i k)))]) (fun _ => []) (fun k => (nth ls i).length - k) 0 (by omega) ?_ ?_
      · rw [kAt_zero]
        simp (disch := omega) only [go_sem, Nat.reduceLT, Nat.reduceAdd, Nat.reduceSub, Nat.reduceMul, Nat.reduceMod, Nat.reduceDiv, Nat.reduceBEq, Nat.reduceEqDiff, Nat.reduceLeDiff, reduceCtorEq, ↓reduceIte, beq_dec, Int.reduceToNat, Int.reduceLT, Int.reduceLE, Int.reduceAdd, Int.reduceSub, Int.reduceMul, Int.reduceEq, Int.reduceNeg, Int.reduceNe, Int.toNat_natCast, IntKind.signed, IntKind.bits, Int.reducePow, Nat.reducePow, Int.natCast_zero]
      · intro k hk
        have hkb : (kAt ls i k).length ≤ 1000000 := by
          have h1 : (kAt ls i k).length ≤ (keysE (ls.take i) ++ ((nth ls i).take k).map Prod.fst).length := insAll_nodup_len
          have h2 := keysE_take ls (i + 1)
          rw [keysE_succ ls i hil] at h2
          simp only [List.length_append, List.length_map, List.length_take] at h1 h2
          omega
        have g45 := fun n => f45 (kAt ls i k) n hkb
        (repeat' (first | refine NextAt.mk (fun hc => ?_) (fun pre n v post hc hkey => ?_) | refine Sni.mk (fun hc => ?_) ?_ | refine Both.mk ?_ ?_ | refine AW_seq ?_ | refine AW_block ?_ | ((first | refine AW_reg ?_ | refine AW_cond ?_ | refine AW_skip ?_ | refine AW_exit ?_ | refine AW_ret ?_ | refine AW_regD (by kernel_rfl) ?_ | refine AW_regX (by kernel_rfl) ?_ | refine CallAtG.t (Eq.refl true) ?_ | refine CallAtG.f (Eq.refl false) ?_ | refine CallAt.mk _ (g45 ..) (by first | (intro h; cases h; done) | (intro _; repeat' (first | exact List.forall_mem_nil _ | trivial | refine List.forall_mem_cons.2 ⟨?_, ?_⟩)) | (intro _; simp [RV.flatP, CD.flatP, getD_map (fun l => [EL l]), getD_map cdE, cdE]; done)) ?_ | refine CallAtG.mk _ (fun _ => g45 ..) ?_ | refine CallDS.mk _ (by simp [RV.data]) (fun _ => g45 ..) (by first | (intro h; cases h; done) | (intro _; repeat' (first | exact List.forall_mem_nil _ | trivial | refine List.forall_mem_cons.2 ⟨?_, ?_⟩)) | (intro _; simp [RV.flatP, CD.flatP, getD_map (fun l => [EL l]), getD_map cdE, cdE]; done)) ?_); try simp (disch := omega) only [go_sem, Nat.reduceLT, Nat.reduceAdd, Nat.reduceSub, Nat.reduceMul, Nat.reduceMod, Nat.reduceDiv, Nat.reduceBEq, Nat.reduceEqDiff, Nat.reduceLeDiff, reduceCtorEq, ↓reduceIte, beq_dec, Int.reduceToNat, Int.reduceLT, Int.reduceLE, Int.reduceAdd, Int.reduceSub, Int.reduceMul, Int.reduceEq, Int.reduceNeg, Int.reduceNe, Int.toNat_natCast, IntKind.signed, IntKind.bits, Int.reducePow, Nat.reducePow, getD_map (fun l => [EL l]), getD_map cdE, cdE]) | refine And.intro (fun hc => (?_ : AW _ _ _ _)) (fun hc => (?_ : AW _ _ _ _)) | simp (disch := omega) only [go_sem, Nat.reduceLT, Nat.reduceAdd, Nat.reduceSub, Nat.reduceMul, Nat.reduceMod, Nat.reduceDiv, Nat.reduceBEq, Nat.reduceEqDiff, Nat.reduceLeDiff, reduceCtorEq, ↓reduceIte, beq_dec, Int.reduceToNat, Int.reduceLT, Int.reduceLE, Int.reduceAdd, Int.reduceSub, Int.reduceMul, Int.reduceEq, Int.reduceNeg, Int.reduceNe, Int.toNat_natCast, IntKind.signed, IntKind.bits, Int.reducePow, Nat.reducePow, getD_map (fun l => [EL l]), getD_map cdE, cdE] | (refine And.intro ?_ ?_; focus (first | (intros; omega) | (intros; simp_all; done))) | refine And.intro (?_ : CallAt _ _ _ _ _ _ _ _) ?_ | refine And.intro (?_ : CallAt _ _ _ _ _ _ _ _ ∧ _) ?_ | refine And.intro (?_ : AW _ _ _ _) ?_ | fail))
        · refine .mk (k + 1) (by omega) (by omega) ?_
          rw [kAt_succ ls i k (by omega)]
          simp (disch := omega) only [go_sem, Nat.reduceLT, Nat.reduceAdd, Nat.reduceSub, Nat.reduceMul, Nat.reduceMod, Nat.reduceDiv, Nat.reduceBEq, Nat.reduceEqDiff, Nat.reduceLeDiff, reduceCtorEq, ↓reduceIte, beq_dec, Int.reduceToNat, Int.reduceLT, Int.reduceLE, Int.reduceAdd, Int.reduceSub, Int.reduceMul, Int.reduceEq, Int.reduceNeg, Int.reduceNe, Int.toNat_natCast, IntKind.signed, IntKind.bits, Int.reducePow, Nat.reducePow, Int.natCast_add, Int.natCast_one]
        · have hke : k = (nth ls i).length := by omega
          subst hke
          refine .mk (i + 1) (by omega) (by omega) ?_
          rw [kAt_last ls i hil]
          simp (disch := omega) only [go_sem, Nat.reduceLT, Nat.reduceAdd, Nat.reduceSub, Nat.reduceMul, Nat.reduceMod, Nat.reduceDiv, Nat.reduceBEq, Nat.reduceEqDiff, Nat.reduceLeDiff, reduceCtorEq, ↓reduceIte, beq_dec, Int.reduceToNat, Int.reduceLT, Int.reduceLE, Int.reduceAdd, Int.reduceSub, Int.reduceMul, Int.reduceEq, Int.reduceNeg, Int.reduceNe, Int.toNat_natCast, IntKind.signed, IntKind.bits, Int.reducePow, Nat.reducePow, Int.natCast_add, Int.natCast_one]
    · have hil : i = ls.length := by omega
      rw [hil, List.take_length]
/-! ### differences -/
def diffP (f g : Int → Sd) (ks : List Int) : List Chg := ks.flatMap fun k => if f k = g k then [] else [mkC k (f k) (g k)]
theorem diffP_succ (f g : Int → Sd) (ks : List Int) (i : Nat) (h : i < ks.length) : diffP f g (ks.take (i + 1)) = diffP f g (ks.take i) ++ (if f (nth ks i) = g (nth ks i) then [] else [mkC (nth ks i) (f (nth ks i)) (g (nth ks i))]) := by
  rw [List.take_succ_eq_append_getElem h, nth_eq ks i h]
  unfold diffP
  rw [List.flatMap_append]
  simp only [List.flatMap_cons, List.flatMap_nil, List.append_nil]
theorem diffP_len (f g : Int → Sd) (ks : List Int) : (diffP f g ks).length ≤ ks.length := by
  induction ks with
  | nil => simp [diffP]
  | cons k r ih =>
    have e : diffP f g (k :: r) = (if f k = g k then [] else [mkC k (f k) (g k)]) ++ diffP f g r := by unfold diffP; rw [List.flatMap_cons]
    rw [e, List.length_append]
    split <;> simp only [List.length_cons, List.length_nil] <;> omega
def K2 (a b : List (Int × Int)) : List Int := insAll (a.map Prod.fst ++ b.map Prod.fst)
theorem K2_len (a b : List (Int × Int)) : (K2 a b).length ≤ a.length + b.length := by
  have := @insAll_nodup_len (a.map Prod.fst ++ b.map Prod.fst)
  unfold K2
  rw [List.length_append, List.length_map, List.length_map] at this
  exact this
def diffO (a b : List (Int × Int)) : List Chg := diffP (atR a) (atR b) (K2 a b)
def diffE (a b : List (Int × Int)) : Int := if validE a && validE b then (if 64 < (diffO a b).length then 6 else 0) else 1
def diffL (a b : List (Int × Int)) : List Chg := if diffE a b ≠ 0 then [] else diffO a b
theorem diffE_bad {a b : List (Int × Int)} (h : ¬ (validE a = true ∧ validE b = true)) : diffE a b = 1 := by
  unfold diffE
  rw [if_neg]
  simpa using h
theorem sd_eq (s t : Sd) : (s = t) ↔ (s.v = t.v ∧ (s.is == t.is) = true) := by
  rcases s with ⟨x, p⟩; rcases t with ⟨y, q⟩; simp
theorem chg_flat (L : List Chg) : ∀ x ∈ L.map Chg.cd, ∀ d ∈ x, CD.flatP d := by
  intro x hx d hd
  obtain ⟨p, _, rfl⟩ := List.mem_map.1 hx
  simp [Chg.cd] at hd
  rcases hd with rfl | rfl | rfl | rfl | rfl <;> trivial
theorem ent_flat (L : List (Int × Int)) : ∀ x ∈ L.map cdE, ∀ d ∈ x, CD.flatP d := by
  intro x hx d hd
  obtain ⟨p, _, rfl⟩ := List.mem_map.1 hx
  simp [cdE] at hd
  rcases hd with rfl | rfl <;> trivial
set_option maxHeartbeats 2000000 in
theorem f13 (a b : List (Int × Int)) : FnR Try.prog 13 [.c (EL a), .c (EL b)] [.own 51 5 ((diffL a b).map Chg.cd), .c (.I (diffE a b))] := by
  by_cases hv : validE a = true ∧ validE b = true
  · obtain ⟨ha, hb⟩ := hv
    have hal := validE_len ha
    have hbl := validE_len hb
    have ga := f31q 901 a ha
    have gb := f31q 902 b hb
    have hk2 := K2_len a b
    have hkE : allK [sdM (tabS a), sdM (tabS b)] = a.map Prod.fst ++ b.map Prod.fst := by
      unfold allK
      simp only [List.flatMap_cons, List.flatMap_nil, List.append_nil, sdM_keys, tabS_keys]
    have g32 : FnR Try.prog 32 [.c (.sl 1 [[MP (sdM (tabS a))], [MP (sdM (tabS b))]])] [.c (Row (K2 a b))] := by
      have := f32 [sdM (tabS a), sdM (tabS b)] (by rw [hkE]; simp; omega)
      rw [hkE] at this
      exact this
    have hE : diffE a b = if 64 < (diffO a b).length then 6 else 0 := by unfold diffE; rw [if_pos (by simp [ha, hb])]
    refine fn_walk code13 (by simp) ?_
    (repeat' (first | refine NextAt.mk (fun hc => ?_) (fun pre n v post hc hkey => ?_) | refine Sni.mk (fun hc => ?_) ?_ | refine Both.mk ?_ ?_ | refine AW_seq ?_ | refine AW_block ?_ | ((first | refine AW_reg ?_ | refine AW_cond ?_ | refine AW_skip ?_ | refine AW_exit ?_ | refine AW_ret ?_ | refine AW_regD (by kernel_rfl) ?_ | refine AW_regX (by kernel_rfl) ?_ | refine CallAt.mkP (ga ..) (by rfl) (by simp (disch := omega) only [go_sem, Nat.reduceLT, Nat.reduceAdd, Nat.reduceSub, Nat.reduceMul, Nat.reduceMod, Nat.reduceDiv, Nat.reduceBEq, Nat.reduceEqDiff, Nat.reduceLeDiff, reduceCtorEq, ↓reduceIte, beq_dec, Int.reduceToNat, Int.reduceLT, Int.reduceLE, Int.reduceAdd, Int.reduceSub, Int.reduceMul, Int.reduceEq, Int.reduceNeg, Int.reduceNe, Int.toNat_natCast, IntKind.signed, IntKind.bits, Int.reducePow, Nat.reducePow, ha, hb]) (by rfl) (by rfl) (by first | (intro h; cases h; done) | (intro _; simp [RV.flatP, CD.flatP, flatOb, AO.flatP, ha, hb]; done)) ?_ | refine CallAt.mkP (gb ..) (by rfl) (by simp (disch := omega) only [go_sem, Nat.reduceLT, Nat.reduceAdd, Nat.reduceSub, Nat.reduceMul, Nat.reduceMod, Nat.reduceDiv, Nat.reduceBEq, Nat.reduceEqDiff, Nat.reduceLeDiff, reduceCtorEq, ↓reduceIte, beq_dec, Int.reduceToNat, Int.reduceLT, Int.reduceLE, Int.reduceAdd, Int.reduceSub, Int.reduceMul, Int.reduceEq, Int.reduceNeg, Int.reduceNe, Int.toNat_natCast, IntKind.signed, IntKind.bits, Int.reducePow, Nat.reducePow, ha, hb]) (by rfl) (by rfl) (by first | (intro h; cases h; done) | (intro _; simp [RV.flatP, CD.flatP, flatOb, AO.flatP, ha, hb]; done)) ?_ | refine CallAtG.t (Eq.refl true) ?_ | refine CallAtG.f (Eq.refl false) ?_ | refine CallAt.mk _ (f20 ..) (by first | (intro h; cases h; done) | (intro _; repeat' (first | exact List.forall_mem_nil _ | trivial | refine List.forall_mem_cons.2 ⟨?_, ?_⟩)) | (intro _; simp [RV.flatP, CD.flatP, ha, hb]; done)) ?_ | refine CallAtG.mk _ (fun _ => f20 ..) ?_ | refine CallDS.mk _ (by simp [RV.data]) (fun _ => f20 ..) (by first | (intro h; cases h; done) | (intro _; repeat' (first | exact List.forall_mem_nil _ | trivial | refine List.forall_mem_cons.2 ⟨?_, ?_⟩)) | (intro _; simp [RV.flatP, CD.flatP, ha, hb]; done)) ?_); try simp (disch := omega) only [go_sem, Nat.reduceLT, Nat.reduceAdd, Nat.reduceSub, Nat.reduceMul, Nat.reduceMod, Nat.reduceDiv, Nat.reduceBEq, Nat.reduceEqDiff, Nat.reduceLeDiff, reduceCtorEq, ↓reduceIte, beq_dec, Int.reduceToNat, Int.reduceLT, Int.reduceLE, Int.reduceAdd, Int.reduceSub, Int.reduceMul, Int.reduceEq, Int.reduceNeg, Int.reduceNe, Int.toNat_natCast, IntKind.signed, IntKind.bits, Int.reducePow, Nat.reducePow, ha, hb]) | refine And.intro (fun hc => (?_ : AW _ _ _ _)) (fun hc => (?_ : AW _ _ _ _)) | simp (disch := omega) only [go_sem, Nat.reduceLT, Nat.reduceAdd, Nat.reduceSub, Nat.reduceMul, Nat.reduceMod, Nat.reduceDiv, Nat.reduceBEq, Nat.reduceEqDiff, Nat.reduceLeDiff, reduceCtorEq, ↓reduceIte, beq_dec, Int.reduceToNat, Int.reduceLT, Int.reduceLE, Int.reduceAdd, Int.reduceSub, Int.reduceMul, Int.reduceEq, Int.reduceNeg, Int.reduceNe, Int.toNat_natCast, IntKind.signed, IntKind.bits, Int.reducePow, Nat.reducePow, ha, hb] | (refine And.intro ?_ ?_; focus (first | (intros; omega) | (intros; simp_all; done))) | refine And.intro (?_ : CallAt _ _ _ _ _ _ _ _) ?_ | refine And.intro (?_ : CallAt _ _ _ _ _ _ _ _ ∧ _) ?_ | refine And.intro (?_ : AW _ _ _ _) ?_ | fail))
    refine CallAt.frz [25] ?_
    simp (disch := omega) only [go_sem, Nat.reduceLT, Nat.reduceAdd, Nat.reduceSub, Nat.reduceMul, Nat.reduceMod, Nat.reduceDiv, Nat.reduceBEq, Nat.reduceEqDiff, Nat.reduceLeDiff, reduceCtorEq, ↓reduceIte, beq_dec, Int.reduceToNat, Int.reduceLT, Int.reduceLE, Int.reduceAdd, Int.reduceSub, Int.reduceMul, Int.reduceEq, Int.reduceNeg, Int.reduceNe, Int.toNat_natCast, IntKind.signed, IntKind.bits, Int.reducePow, Nat.reducePow]
    refine CallAt.mk _ g32 (fun h => by cases h) ?_
    (repeat' (first | refine NextAt.mk (fun hc => ?_) (fun pre n v post hc hkey => ?_) | refine Sni.mk (fun hc => ?_) ?_ | refine Both.mk ?_ ?_ | refine AW_seq ?_ | refine AW_block ?_ | ((first | refine AW_reg ?_ | refine AW_cond ?_ | refine AW_skip ?_ | refine AW_exit ?_ | refine AW_ret ?_ | refine AW_regD (by kernel_rfl) ?_ | refine AW_regX (by kernel_rfl) ?_ | refine CallAtG.t (Eq.refl true) ?_ | refine CallAtG.f (Eq.refl false) ?_); try simp (disch := omega) only [go_sem, Nat.reduceLT, Nat.reduceAdd, Nat.reduceSub, Nat.reduceMul, Nat.reduceMod, Nat.reduceDiv, Nat.reduceBEq, Nat.reduceEqDiff, Nat.reduceLeDiff, reduceCtorEq, ↓reduceIte, beq_dec, Int.reduceToNat, Int.reduceLT, Int.reduceLE, Int.reduceAdd, Int.reduceSub, Int.reduceMul, Int.reduceEq, Int.reduceNeg, Int.reduceNe, Int.toNat_natCast, IntKind.signed, IntKind.bits, Int.reducePow, Nat.reducePow, maxLen]) | refine And.intro (fun hc => (?_ : AW _ _ _ _)) (fun hc => (?_ : AW _ _ _ _)) | simp (disch := omega) only [go_sem, Nat.reduceLT, Nat.reduceAdd, Nat.reduceSub, Nat.reduceMul, Nat.reduceMod, Nat.reduceDiv, Nat.reduceBEq, Nat.reduceEqDiff, Nat.reduceLeDiff, reduceCtorEq, ↓reduceIte, beq_dec, Int.reduceToNat, Int.reduceLT, Int.reduceLE, Int.reduceAdd, Int.reduceSub, Int.reduceMul, Int.reduceEq, Int.reduceNeg, Int.reduceNe, Int.toNat_natCast, IntKind.signed, IntKind.bits, Int.reducePow, Nat.reducePow, maxLen] | (refine And.intro ?_ ?_; focus (first | (intros; omega) | (intros; simp_all; done))) | refine And.intro (?_ : CallAt _ _ _ _ _ _ _ _) ?_ | refine And.intro (?_ : CallAt _ _ _ _ _ _ _ _ ∧ _) ?_ | refine And.intro (?_ : AW _ _ _ _) ?_ | fail))
    have hKb : (K2 a b).length ≤ 1000 := by omega
    have hd0 := diffP_len (atR a) (atR b) (K2 a b)
    have g33 := f33
    refine AW_nil 8 900 51 5 (by rfl) ?_
    refine AW_loopK [6, 7, 26, 27] [8, 10, 28, 29, 30, 31, 32, 33, 34, 35, 36, 37, 38, 39, 40, 41, 42, 43, 44, 45, 46, 47, 48, 49, 50] (fun i : Nat => i ≤ (K2 a b).length) (fun i => [(8, .own 900), (28, .I i)]) (fun i => [(900, .arr 51 5 ((diffP (atR a) (atR b) ((K2 a b).take i)).map Chg.cd))]) (fun i => (K2 a b).length - i) 0 (by omega) ?_ ?_
    · simp (disch := omega) only [go_sem, Nat.reduceLT, Nat.reduceAdd, Nat.reduceSub, Nat.reduceMul, Nat.reduceMod, Nat.reduceDiv, Nat.reduceBEq, Nat.reduceEqDiff, Nat.reduceLeDiff, reduceCtorEq, ↓reduceIte, beq_dec, Int.reduceToNat, Int.reduceLT, Int.reduceLE, Int.reduceAdd, Int.reduceSub, Int.reduceMul, Int.reduceEq, Int.reduceNeg, Int.reduceNe, Int.toNat_natCast, IntKind.signed, IntKind.bits, Int.reducePow, Nat.reducePow, Int.natCast_zero, List.take_zero, diffP, List.flatMap_nil, List.map_nil]
    · intro i hi
      have hb := diffP_len (atR a) (atR b) ((K2 a b).take i)
      have hb2 : ((K2 a b).take i).length ≤ (K2 a b).length := by simp; omega
      (repeat' (first | refine NextAt.mk (fun hc => ?_) (fun pre n v post hc hkey => ?_) | refine Sni.mk (fun hc => ?_) ?_ | refine Both.mk ?_ ?_ | refine AW_seq ?_ | refine AW_block ?_ | ((first | refine AW_reg ?_ | refine AW_cond ?_ | refine AW_skip ?_ | refine AW_exit ?_ | refine AW_ret ?_ | refine AW_regD (by kernel_rfl) ?_ | refine AW_regX (by kernel_rfl) ?_ | refine CallAtG.t (Eq.refl true) ?_ | refine CallAtG.f (Eq.refl false) ?_ | refine CallAt.mk _ (f33 ..) (by first | (intro h; cases h; done) | (intro _; repeat' (first | exact List.forall_mem_nil _ | trivial | refine List.forall_mem_cons.2 ⟨?_, ?_⟩)) | (intro _; simp [RV.flatP, CD.flatP, getD_map (fun x : Int => [CD.I x]), sdM_look, tabS_look, List.length_append, List.length_map, maxLen]; done)) ?_ | refine CallAtG.mk _ (fun _ => f33 ..) ?_ | refine CallDS.mk _ (by simp [RV.data]) (fun _ => f33 ..) (by first | (intro h; cases h; done) | (intro _; repeat' (first | exact List.forall_mem_nil _ | trivial | refine List.forall_mem_cons.2 ⟨?_, ?_⟩)) | (intro _; simp [RV.flatP, CD.flatP, getD_map (fun x : Int => [CD.I x]), sdM_look, tabS_look, List.length_append, List.length_map, maxLen]; done)) ?_); try simp (disch := omega) only [go_sem, Nat.reduceLT, Nat.reduceAdd, Nat.reduceSub, Nat.reduceMul, Nat.reduceMod, Nat.reduceDiv, Nat.reduceBEq, Nat.reduceEqDiff, Nat.reduceLeDiff, reduceCtorEq, ↓reduceIte, beq_dec, Int.reduceToNat, Int.reduceLT, Int.reduceLE, Int.reduceAdd, Int.reduceSub, Int.reduceMul, Int.reduceEq, Int.reduceNeg, Int.reduceNe, Int.toNat_natCast, IntKind.signed, IntKind.bits, Int.reducePow, Nat.reducePow, getD_map (fun x : Int => [CD.I x]), sdM_look, tabS_look, List.length_append, List.length_map, maxLen]) | refine And.intro (fun hc => (?_ : AW _ _ _ _)) (fun hc => (?_ : AW _ _ _ _)) | simp (disch := omega) only [go_sem, Nat.reduceLT, Nat.reduceAdd, Nat.reduceSub, Nat.reduceMul, Nat.reduceMod, Nat.reduceDiv, Nat.reduceBEq, Nat.reduceEqDiff, Nat.reduceLeDiff, reduceCtorEq, ↓reduceIte, beq_dec, Int.reduceToNat, Int.reduceLT, Int.reduceLE, Int.reduceAdd, Int.reduceSub, Int.reduceMul, Int.reduceEq, Int.reduceNeg, Int.reduceNe, Int.toNat_natCast, IntKind.signed, IntKind.bits, Int.reducePow, Nat.reducePow, getD_map (fun x : Int => [CD.I x]), sdM_look, tabS_look, List.length_append, List.length_map, maxLen] | (refine And.intro ?_ ?_; focus (first | (intros; omega) | (intros; simp_all; done))) | refine And.intro (?_ : CallAt _ _ _ _ _ _ _ _) ?_ | refine And.intro (?_ : CallAt _ _ _ _ _ _ _ _ ∧ _) ?_ | refine And.intro (?_ : AW _ _ _ _) ?_ | fail))
      · refine .mk (i + 1) (by omega) (by omega) ?_
        rw [diffP_succ _ _ (K2 a b) i (by omega), if_neg (fun he => by rw [sd_eq] at he; rcases hc with h | h; exact h he.1; simp [he.2] at h), List.map_append]
        simp (disch := omega) only [go_sem, Nat.reduceLT, Nat.reduceAdd, Nat.reduceSub, Nat.reduceMul, Nat.reduceMod, Nat.reduceDiv, Nat.reduceBEq, Nat.reduceEqDiff, Nat.reduceLeDiff, reduceCtorEq, ↓reduceIte, beq_dec, Int.reduceToNat, Int.reduceLT, Int.reduceLE, Int.reduceAdd, Int.reduceSub, Int.reduceMul, Int.reduceEq, Int.reduceNeg, Int.reduceNe, Int.toNat_natCast, IntKind.signed, IntKind.bits, Int.reducePow, Nat.reducePow, Int.natCast_add, Int.natCast_one, Chg.cd]
      · refine .mk (i + 1) (by omega) (by omega) ?_
        rw [diffP_succ _ _ (K2 a b) i (by omega), if_pos (by rw [sd_eq]; simpa using hc), List.append_nil]
        simp (disch := omega) only [go_sem, Nat.reduceLT, Nat.reduceAdd, Nat.reduceSub, Nat.reduceMul, Nat.reduceMod, Nat.reduceDiv, Nat.reduceBEq, Nat.reduceEqDiff, Nat.reduceLeDiff, reduceCtorEq, ↓reduceIte, beq_dec, Int.reduceToNat, Int.reduceLT, Int.reduceLE, Int.reduceAdd, Int.reduceSub, Int.reduceMul, Int.reduceEq, Int.reduceNeg, Int.reduceNe, Int.toNat_natCast, IntKind.signed, IntKind.bits, Int.reducePow, Nat.reducePow, Int.natCast_add, Int.natCast_one]
      · have hil : i = (K2 a b).length := by omega
        rw [hil, List.take_length] at hc
        have he : diffE a b = 6 := by rw [hE, if_pos (by unfold diffO; omega)]
        have hL : diffL a b = [] := by unfold diffL; rw [he]; rfl
        rw [hL, he]
        exact ⟨rfl, rfl⟩
      · have hil : i = (K2 a b).length := by omega
        rw [hil, List.take_length] at hc ⊢
        have he : diffE a b = 0 := by rw [hE, if_neg (by unfold diffO; omega)]
        have hL : diffL a b = diffO a b := by unfold diffL; rw [he]; rfl
        rw [hL, he]
        exact ⟨rfl, rfl⟩
  · have hE := diffE_bad hv
    have hL : diffL a b = [] := by unfold diffL; rw [hE]; rfl
    rw [hE, hL]
    refine fn_walk code13 (by simp) ?_
    (repeat' (first | refine NextAt.mk (fun hc => ?_) (fun pre n v post hc hkey => ?_) | refine Sni.mk (fun hc => ?_) ?_ | refine Both.mk ?_ ?_ | refine AW_seq ?_ | refine AW_block ?_ | ((first | refine AW_reg ?_ | refine AW_cond ?_ | refine AW_skip ?_ | refine AW_exit ?_ | refine AW_ret ?_ | refine AW_regD (by kernel_rfl) ?_ | refine AW_regX (by kernel_rfl) ?_ | refine CallAtG.t (Eq.refl true) ?_ | refine CallAtG.f (Eq.refl false) ?_ | refine CallAt.mk _ (f20 ..) (by first | (intro h; cases h; done) | (intro _; repeat' (first | exact List.forall_mem_nil _ | trivial | refine List.forall_mem_cons.2 ⟨?_, ?_⟩)) | (intro _; simp [RV.flatP, CD.flatP]; done)) ?_ | refine CallAtG.mk _ (fun _ => f20 ..) ?_ | refine CallDS.mk _ (by simp [RV.data]) (fun _ => f20 ..) (by first | (intro h; cases h; done) | (intro _; repeat' (first | exact List.forall_mem_nil _ | trivial | refine List.forall_mem_cons.2 ⟨?_, ?_⟩)) | (intro _; simp [RV.flatP, CD.flatP]; done)) ?_); try simp (disch := omega) only [go_sem, Nat.reduceLT, Nat.reduceAdd, Nat.reduceSub, Nat.reduceMul, Nat.reduceMod, Nat.reduceDiv, Nat.reduceBEq, Nat.reduceEqDiff, Nat.reduceLeDiff, reduceCtorEq, ↓reduceIte, beq_dec, Int.reduceToNat, Int.reduceLT, Int.reduceLE, Int.reduceAdd, Int.reduceSub, Int.reduceMul, Int.reduceEq, Int.reduceNeg, Int.reduceNe, Int.toNat_natCast, IntKind.signed, IntKind.bits, Int.reducePow, Nat.reducePow]) | refine And.intro (fun hc => (?_ : AW _ _ _ _)) (fun hc => (?_ : AW _ _ _ _)) | simp (disch := omega) only [go_sem, Nat.reduceLT, Nat.reduceAdd, Nat.reduceSub, Nat.reduceMul, Nat.reduceMod, Nat.reduceDiv, Nat.reduceBEq, Nat.reduceEqDiff, Nat.reduceLeDiff, reduceCtorEq, ↓reduceIte, beq_dec, Int.reduceToNat, Int.reduceLT, Int.reduceLE, Int.reduceAdd, Int.reduceSub, Int.reduceMul, Int.reduceEq, Int.reduceNeg, Int.reduceNe, Int.toNat_natCast, IntKind.signed, IntKind.bits, Int.reducePow, Nat.reducePow] | (refine And.intro ?_ ?_; focus (first | (intros; omega) | (intros; simp_all; done))) | refine And.intro (?_ : CallAt _ _ _ _ _ _ _ _) ?_ | refine And.intro (?_ : CallAt _ _ _ _ _ _ _ _ ∧ _) ?_ | refine And.intro (?_ : AW _ _ _ _) ?_ | fail))
    all_goals (exfalso; exact hv ⟨by simp_all, by simp_all⟩)
end Go.Proofs.Ytklkehlccjofoaa

-- P p_12.txt
open Go Go.AL Go.RowKit Go.Shelf
namespace Go.Proofs.Ytklkehlccjofoaa
set_option maxRecDepth 20000

theorem t14 {Q : Exit → St → Prop} {σ : St} (h : stepsD Try.prog (tailQ Try.prog Q [⟨(some 44), .call 35 [(.t 27), (.t 31), (.t 37), (.t 43)], none⟩, ⟨(some 6), .mv (.t 44), none⟩]) [(⟨(some 27), .mv (.t 6), none⟩, [6]), (⟨(some 28), .mv (.t 7), none⟩, [7]), (⟨(some 29), .mv (.t 8), none⟩, [8]), (⟨(some 30), .iad 1 (.t 28) (.t 29), none⟩, [28, 29]), (⟨(some 31), .ld none (.t 30), none⟩, [30]), (⟨(some 32), .mv (.t 0), none⟩, [0]), (⟨(some 33), .mv (.t 7), none⟩, [7]), (⟨(some 34), .mv (.t 8), none⟩, [8]), (⟨(some 35), .iad 1 (.t 33) (.t 34), none⟩, [33, 34]), (⟨(some 36), .ld none (.t 35), none⟩, [35]), (⟨(some 37), .call 36 [(.t 32), (.t 36)], none⟩, [32, 36]), (⟨(some 38), .mv (.t 1), none⟩, [1]), (⟨(some 39), .mv (.t 7), none⟩, [7]), (⟨(some 40), .mv (.t 8), none⟩, [8]), (⟨(some 41), .iad 1 (.t 39) (.t 40), none⟩, [39, 40]), (⟨(some 42), .ld none (.t 41), none⟩, [41]), (⟨(some 43), .call 36 [(.t 38), (.t 42)], none⟩, [38, 42])] σ) : AW Try.prog c14_13 Q σ := AW_regDT 17 (by kernel_rfl) (by decide) (by decide +kernel) h
theorem keysE_two (a b : List (Int × Int)) : keysE [a, b] = a.map Prod.fst ++ b.map Prod.fst := by
  unfold keysE
  simp only [List.flatMap_cons, List.flatMap_nil, List.append_nil]
theorem diffP_ch (f g : Int → Sd) (ks : List Int) (i : Nat) (h : i < ks.length) : diffP f g (ks.take (i + 1)) = chL (diffP f g (ks.take i)) (nth ks i) (f (nth ks i)) (g (nth ks i)) := by
  rw [diffP_succ f g ks i h]
  unfold chL
  split
  · rw [List.append_nil]
  · rfl
set_option maxHeartbeats 2000000 in
theorem f14 (a b : List (Int × Int)) : FnR Try.prog 14 [.c (EL a), .c (EL b)] [.own 51 5 ((diffL a b).map Chg.cd), .c (.I (diffE a b))] := by
  by_cases hv : validE a = true ∧ validE b = true
  · obtain ⟨ha, hb⟩ := hv
    have hal := validE_len ha
    have hbl := validE_len hb
    have hk2 := K2_len a b
    have g34 : FnR Try.prog 34 [.c (.sl 1 [[EL a], [EL b]])] [.c (Row (K2 a b))] := by
      have := f34 [a, b] (by rw [keysE_two]; simp; omega)
      rw [keysE_two] at this
      exact this
    have hE : diffE a b = if 64 < (diffO a b).length then 6 else 0 := by unfold diffE; rw [if_pos (by simp [ha, hb])]
    have hKb : (K2 a b).length ≤ 1000 := by omega
    have hd0 := diffP_len (atR a) (atR b) (K2 a b)
    refine fn_walk code14 (by simp) ?_
    (repeat' (first | refine NextAt.mk (fun hc => ?_) (fun pre n v post hc hkey => ?_) | refine Sni.mk (fun hc => ?_) ?_ | refine Both.mk ?_ ?_ | refine AW_seq ?_ | refine AW_block ?_ | ((first | refine AW_reg ?_ | refine AW_cond ?_ | refine AW_skip ?_ | refine AW_exit ?_ | refine AW_ret ?_ | refine AW_regD (by kernel_rfl) ?_ | refine AW_regX (by kernel_rfl) ?_ | refine CallAtG.t (Eq.refl true) ?_ | refine CallAtG.f (Eq.refl false) ?_ | refine CallAt.mk _ (f24 ..) (by first | (intro h; cases h; done) | (intro _; repeat' (first | exact List.forall_mem_nil _ | trivial | refine List.forall_mem_cons.2 ⟨?_, ?_⟩)) | (intro _; simp [RV.flatP, CD.flatP, ha, hb]; done)) ?_ | refine CallAtG.mk _ (fun _ => f24 ..) ?_ | refine CallDS.mk _ (by simp [RV.data]) (fun _ => f24 ..) (by first | (intro h; cases h; done) | (intro _; repeat' (first | exact List.forall_mem_nil _ | trivial | refine List.forall_mem_cons.2 ⟨?_, ?_⟩)) | (intro _; simp [RV.flatP, CD.flatP, ha, hb]; done)) ?_); try simp (disch := omega) only [go_sem, Nat.reduceLT, Nat.reduceAdd, Nat.reduceSub, Nat.reduceMul, Nat.reduceMod, Nat.reduceDiv, Nat.reduceBEq, Nat.reduceEqDiff, Nat.reduceLeDiff, reduceCtorEq, ↓reduceIte, beq_dec, Int.reduceToNat, Int.reduceLT, Int.reduceLE, Int.reduceAdd, Int.reduceSub, Int.reduceMul, Int.reduceEq, Int.reduceNeg, Int.reduceNe, Int.toNat_natCast, IntKind.signed, IntKind.bits, Int.reducePow, Nat.reducePow, ha, hb]) | refine And.intro (fun hc => (?_ : AW _ _ _ _)) (fun hc => (?_ : AW _ _ _ _)) | simp (disch := omega) only [go_sem, Nat.reduceLT, Nat.reduceAdd, Nat.reduceSub, Nat.reduceMul, Nat.reduceMod, Nat.reduceDiv, Nat.reduceBEq, Nat.reduceEqDiff, Nat.reduceLeDiff, reduceCtorEq, ↓reduceIte, beq_dec, Int.reduceToNat, Int.reduceLT, Int.reduceLE, Int.reduceAdd, Int.reduceSub, Int.reduceMul, Int.reduceEq, Int.reduceNeg, Int.reduceNe, Int.toNat_natCast, IntKind.signed, IntKind.bits, Int.reducePow, Nat.reducePow, ha, hb] | (refine And.intro ?_ ?_; focus (first | (intros; omega) | (intros; simp_all; done))) | refine And.intro (?_ : CallAt _ _ _ _ _ _ _ _) ?_ | refine And.intro (?_ : CallAt _ _ _ _ _ _ _ _ ∧ _) ?_ | refine And.intro (?_ : AW _ _ _ _) ?_ | fail))
    refine CallAt.frz [19] ?_
    simp (disch := omega) only [go_sem, Nat.reduceLT, Nat.reduceAdd, Nat.reduceSub, Nat.reduceMul, Nat.reduceMod, Nat.reduceDiv, Nat.reduceBEq, Nat.reduceEqDiff, Nat.reduceLeDiff, reduceCtorEq, ↓reduceIte, beq_dec, Int.reduceToNat, Int.reduceLT, Int.reduceLE, Int.reduceAdd, Int.reduceSub, Int.reduceMul, Int.reduceEq, Int.reduceNeg, Int.reduceNe, Int.toNat_natCast, IntKind.signed, IntKind.bits, Int.reducePow, Nat.reducePow]
    refine CallAt.mk _ g34 (fun h => by cases h) ?_
    (repeat' (first | refine NextAt.mk (fun hc => ?_) (fun pre n v post hc hkey => ?_) | refine Sni.mk (fun hc => ?_) ?_ | refine Both.mk ?_ ?_ | refine AW_seq ?_ | refine AW_block ?_ | ((first | refine AW_reg ?_ | refine AW_cond ?_ | refine AW_skip ?_ | refine AW_exit ?_ | refine AW_ret ?_ | refine AW_regD (by kernel_rfl) ?_ | refine AW_regX (by kernel_rfl) ?_ | refine CallAtG.t (Eq.refl true) ?_ | refine CallAtG.f (Eq.refl false) ?_); try simp (disch := omega) only [go_sem, Nat.reduceLT, Nat.reduceAdd, Nat.reduceSub, Nat.reduceMul, Nat.reduceMod, Nat.reduceDiv, Nat.reduceBEq, Nat.reduceEqDiff, Nat.reduceLeDiff, reduceCtorEq, ↓reduceIte, beq_dec, Int.reduceToNat, Int.reduceLT, Int.reduceLE, Int.reduceAdd, Int.reduceSub, Int.reduceMul, Int.reduceEq, Int.reduceNeg, Int.reduceNe, Int.toNat_natCast, IntKind.signed, IntKind.bits, Int.reducePow, Nat.reducePow, maxLen]) | refine And.intro (fun hc => (?_ : AW _ _ _ _)) (fun hc => (?_ : AW _ _ _ _)) | simp (disch := omega) only [go_sem, Nat.reduceLT, Nat.reduceAdd, Nat.reduceSub, Nat.reduceMul, Nat.reduceMod, Nat.reduceDiv, Nat.reduceBEq, Nat.reduceEqDiff, Nat.reduceLeDiff, reduceCtorEq, ↓reduceIte, beq_dec, Int.reduceToNat, Int.reduceLT, Int.reduceLE, Int.reduceAdd, Int.reduceSub, Int.reduceMul, Int.reduceEq, Int.reduceNeg, Int.reduceNe, Int.toNat_natCast, IntKind.signed, IntKind.bits, Int.reducePow, Nat.reducePow, maxLen] | (refine And.intro ?_ ?_; focus (first | (intros; omega) | (intros; simp_all; done))) | refine And.intro (?_ : CallAt _ _ _ _ _ _ _ _) ?_ | refine And.intro (?_ : CallAt _ _ _ _ _ _ _ _ ∧ _) ?_ | refine And.intro (?_ : AW _ _ _ _) ?_ | fail))
    refine AW_nil 6 900 51 5 (by rfl) ?_
    refine AW_loopK [0, 1, 7] [6, 8, 21, 22, 23, 24, 25, 26, 27, 28, 29, 30, 31, 32, 33, 34, 35, 36, 37, 38, 39, 40, 41, 42, 43, 44] (fun i : Nat => i ≤ (K2 a b).length) (fun i => [(6, .own 900), (8, .I i)]) (fun i => [(900, .arr 51 5 ((diffP (atR a) (atR b) ((K2 a b).take i)).map Chg.cd))]) (fun i => (K2 a b).length - i) 0 (by omega) ?_ ?_
    · simp (disch := omega) only [go_sem, Nat.reduceLT, Nat.reduceAdd, Nat.reduceSub, Nat.reduceMul, Nat.reduceMod, Nat.reduceDiv, Nat.reduceBEq, Nat.reduceEqDiff, Nat.reduceLeDiff, reduceCtorEq, ↓reduceIte, beq_dec, Int.reduceToNat, Int.reduceLT, Int.reduceLE, Int.reduceAdd, Int.reduceSub, Int.reduceMul, Int.reduceEq, Int.reduceNeg, Int.reduceNe, Int.toNat_natCast, IntKind.signed, IntKind.bits, Int.reducePow, Nat.reducePow, Int.natCast_zero, List.take_zero, diffP, List.flatMap_nil, List.map_nil]
    · intro i hi
      have hb := diffP_len (atR a) (atR b) ((K2 a b).take i)
      have hb2 : ((K2 a b).take i).length ≤ (K2 a b).length := by simp; omega
      have g35 := fun k x y => f35 (diffP (atR a) (atR b) ((K2 a b).take i)) k x y (by omega)
      (repeat' (first | (with_reducible refine t14 ?_; try simp (disch := omega) only [go_sem, Nat.reduceLT, Nat.reduceAdd, Nat.reduceSub, Nat.reduceMul, Nat.reduceMod, Nat.reduceDiv, Nat.reduceBEq, Nat.reduceEqDiff, Nat.reduceLeDiff, reduceCtorEq, ↓reduceIte, beq_dec, Int.reduceToNat, Int.reduceLT, Int.reduceLE, Int.reduceAdd, Int.reduceSub, Int.reduceMul, Int.reduceEq, Int.reduceNeg, Int.reduceNe, Int.toNat_natCast, IntKind.signed, IntKind.bits, Int.reducePow, Nat.reducePow, getD_map (fun x : Int => [CD.I x]), List.length_append, List.length_map, maxLen]) | refine NextAt.mk (fun hc => ?_) (fun pre n v post hc hkey => ?_) | refine Sni.mk (fun hc => ?_) ?_ | refine Both.mk ?_ ?_ | refine AW_seq ?_ | refine AW_block ?_ | ((first | refine AW_reg ?_ | refine AW_cond ?_ | refine AW_skip ?_ | refine AW_exit ?_ | refine AW_ret ?_ | refine AW_regD (by kernel_rfl) ?_ | refine AW_regX (by kernel_rfl) ?_ | refine CallAt.mkP (g35 ..) (by rfl) (by simp (disch := omega) only [go_sem, Nat.reduceLT, Nat.reduceAdd, Nat.reduceSub, Nat.reduceMul, Nat.reduceMod, Nat.reduceDiv, Nat.reduceBEq, Nat.reduceEqDiff, Nat.reduceLeDiff, reduceCtorEq, ↓reduceIte, beq_dec, Int.reduceToNat, Int.reduceLT, Int.reduceLE, Int.reduceAdd, Int.reduceSub, Int.reduceMul, Int.reduceEq, Int.reduceNeg, Int.reduceNe, Int.toNat_natCast, IntKind.signed, IntKind.bits, Int.reducePow, Nat.reducePow, getD_map (fun x : Int => [CD.I x]), List.length_append, List.length_map, maxLen]) (by rfl) (by rfl) (by first | (intro h; cases h; done) | (intro _; simp [RV.flatP, CD.flatP, flatOb, AO.flatP, getD_map (fun x : Int => [CD.I x]), List.length_append, List.length_map, maxLen]; done)) ?_ | refine CallAtG.t (Eq.refl true) ?_ | refine CallAtG.f (Eq.refl false) ?_ | refine CallAt.mk _ (f36 ..) (by first | (intro h; cases h; done) | (intro _; repeat' (first | exact List.forall_mem_nil _ | trivial | refine List.forall_mem_cons.2 ⟨?_, ?_⟩)) | (intro _; simp [RV.flatP, CD.flatP, getD_map (fun x : Int => [CD.I x]), List.length_append, List.length_map, maxLen]; done)) ?_ | refine CallAtG.mk _ (fun _ => f36 ..) ?_ | refine CallDS.mk _ (by simp [RV.data]) (fun _ => f36 ..) (by first | (intro h; cases h; done) | (intro _; repeat' (first | exact List.forall_mem_nil _ | trivial | refine List.forall_mem_cons.2 ⟨?_, ?_⟩)) | (intro _; simp [RV.flatP, CD.flatP, getD_map (fun x : Int => [CD.I x]), List.length_append, List.length_map, maxLen]; done)) ?_); try simp (disch := omega) only [go_sem, Nat.reduceLT, Nat.reduceAdd, Nat.reduceSub, Nat.reduceMul, Nat.reduceMod, Nat.reduceDiv, Nat.reduceBEq, Nat.reduceEqDiff, Nat.reduceLeDiff, reduceCtorEq, ↓reduceIte, beq_dec, Int.reduceToNat, Int.reduceLT, Int.reduceLE, Int.reduceAdd, Int.reduceSub, Int.reduceMul, Int.reduceEq, Int.reduceNeg, Int.reduceNe, Int.toNat_natCast, IntKind.signed, IntKind.bits, Int.reducePow, Nat.reducePow, getD_map (fun x : Int => [CD.I x]), List.length_append, List.length_map, maxLen]) | refine And.intro (fun hc => (?_ : AW _ _ _ _)) (fun hc => (?_ : AW _ _ _ _)) | simp (disch := omega) only [go_sem, Nat.reduceLT, Nat.reduceAdd, Nat.reduceSub, Nat.reduceMul, Nat.reduceMod, Nat.reduceDiv, Nat.reduceBEq, Nat.reduceEqDiff, Nat.reduceLeDiff, reduceCtorEq, ↓reduceIte, beq_dec, Int.reduceToNat, Int.reduceLT, Int.reduceLE, Int.reduceAdd, Int.reduceSub, Int.reduceMul, Int.reduceEq, Int.reduceNeg, Int.reduceNe, Int.toNat_natCast, IntKind.signed, IntKind.bits, Int.reducePow, Nat.reducePow, getD_map (fun x : Int => [CD.I x]), List.length_append, List.length_map, maxLen] | (refine And.intro ?_ ?_; focus (first | (intros; omega) | (intros; simp_all; done))) | refine And.intro (?_ : CallAt _ _ _ _ _ _ _ _) ?_ | refine And.intro (?_ : CallAt _ _ _ _ _ _ _ _ ∧ _) ?_ | refine And.intro (?_ : AW _ _ _ _) ?_ | fail))
      · refine .mk (i + 1) (by omega) (by omega) ?_
        rw [diffP_ch _ _ (K2 a b) i (by omega)]
        simp (disch := omega) only [go_sem, Nat.reduceLT, Nat.reduceAdd, Nat.reduceSub, Nat.reduceMul, Nat.reduceMod, Nat.reduceDiv, Nat.reduceBEq, Nat.reduceEqDiff, Nat.reduceLeDiff, reduceCtorEq, ↓reduceIte, beq_dec, Int.reduceToNat, Int.reduceLT, Int.reduceLE, Int.reduceAdd, Int.reduceSub, Int.reduceMul, Int.reduceEq, Int.reduceNeg, Int.reduceNe, Int.toNat_natCast, IntKind.signed, IntKind.bits, Int.reducePow, Nat.reducePow, Int.natCast_add, Int.natCast_one]
      · have hil : i = (K2 a b).length := by omega
        rw [hil, List.take_length] at hc
        have he : diffE a b = 6 := by rw [hE, if_pos (by unfold diffO; omega)]
        have hL : diffL a b = [] := by unfold diffL; rw [he]; rfl
        rw [hL, he]
        exact ⟨rfl, rfl⟩
      · have hil : i = (K2 a b).length := by omega
        rw [hil, List.take_length] at hc ⊢
        have he : diffE a b = 0 := by rw [hE, if_neg (by unfold diffO; omega)]
        have hL : diffL a b = diffO a b := by unfold diffL; rw [he]; rfl
        rw [hL, he]
        exact ⟨rfl, rfl⟩
  · have hE := diffE_bad hv
    have hL : diffL a b = [] := by unfold diffL; rw [hE]; rfl
    rw [hE, hL]
    refine fn_walk code14 (by simp) ?_
    (repeat' (first | refine NextAt.mk (fun hc => ?_) (fun pre n v post hc hkey => ?_) | refine Sni.mk (fun hc => ?_) ?_ | refine Both.mk ?_ ?_ | refine AW_seq ?_ | refine AW_block ?_ | ((first | refine AW_reg ?_ | refine AW_cond ?_ | refine AW_skip ?_ | refine AW_exit ?_ | refine AW_ret ?_ | refine AW_regD (by kernel_rfl) ?_ | refine AW_regX (by kernel_rfl) ?_ | refine CallAtG.t (Eq.refl true) ?_ | refine CallAtG.f (Eq.refl false) ?_ | refine CallAt.mk _ (f24 ..) (by first | (intro h; cases h; done) | (intro _; repeat' (first | exact List.forall_mem_nil _ | trivial | refine List.forall_mem_cons.2 ⟨?_, ?_⟩)) | (intro _; simp [RV.flatP, CD.flatP]; done)) ?_ | refine CallAtG.mk _ (fun _ => f24 ..) ?_ | refine CallDS.mk _ (by simp [RV.data]) (fun _ => f24 ..) (by first | (intro h; cases h; done) | (intro _; repeat' (first | exact List.forall_mem_nil _ | trivial | refine List.forall_mem_cons.2 ⟨?_, ?_⟩)) | (intro _; simp [RV.flatP, CD.flatP]; done)) ?_); try simp (disch := omega) only [go_sem, Nat.reduceLT, Nat.reduceAdd, Nat.reduceSub, Nat.reduceMul, Nat.reduceMod, Nat.reduceDiv, Nat.reduceBEq, Nat.reduceEqDiff, Nat.reduceLeDiff, reduceCtorEq, ↓reduceIte, beq_dec, Int.reduceToNat, Int.reduceLT, Int.reduceLE, Int.reduceAdd, Int.reduceSub, Int.reduceMul, Int.reduceEq, Int.reduceNeg, Int.reduceNe, Int.toNat_natCast, IntKind.signed, IntKind.bits, Int.reducePow, Nat.reducePow]) | refine And.intro (fun hc => (?_ : AW _ _ _ _)) (fun hc => (?_ : AW _ _ _ _)) | simp (disch := omega) only [go_sem, Nat.reduceLT, Nat.reduceAdd, Nat.reduceSub, Nat.reduceMul, Nat.reduceMod, Nat.reduceDiv, Nat.reduceBEq, Nat.reduceEqDiff, Nat.reduceLeDiff, reduceCtorEq, ↓reduceIte, beq_dec, Int.reduceToNat, Int.reduceLT, Int.reduceLE, Int.reduceAdd, Int.reduceSub, Int.reduceMul, Int.reduceEq, Int.reduceNeg, Int.reduceNe, Int.toNat_natCast, IntKind.signed, IntKind.bits, Int.reducePow, Nat.reducePow] | (refine And.intro ?_ ?_; focus (first | (intros; omega) | (intros; simp_all; done))) | refine And.intro (?_ : CallAt _ _ _ _ _ _ _ _) ?_ | refine And.intro (?_ : CallAt _ _ _ _ _ _ _ _ ∧ _) ?_ | refine And.intro (?_ : AW _ _ _ _) ?_ | fail))
    all_goals (exfalso; exact hv ⟨by simp_all, by simp_all⟩)
end Go.Proofs.Ytklkehlccjofoaa

