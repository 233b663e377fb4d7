/-
  Lemmas for the proof: no statement of its own.
-/
import Derived.Test.YthpnplebcmijnaaWalkD
set_option linter.unusedVariables false
set_option linter.unusedSimpArgs false
-- P p_w.txt
open Go Go.AL Go.RowKit Go.Shelf
namespace Go.Proofs.Ythpnplebcmijnaa
set_option maxRecDepth 20000
def getC : List Chg → Int → Option Chg
  | [], _ => none
  | c :: r, k => if c.key = k then some c else getC r k
def appT (m : Tab) (l : List Chg) : Tab := l.foldl (fun m c => setS m c.key c.aft) m
def appF (a : List (Int × Int)) (l : List Chg) (k : Int) : Sd := match getC l k with
  | some c => c.aft
  | none => atR a k
def okA (a : List (Int × Int)) (l : List Chg) : Bool := decide (∀ i, i < l.length → atR a (nth l i).key = (nth l i).bef)
theorem appT_succ (m : Tab) (l : List Chg) (i : Nat) (h : i < l.length) : appT m (l.take (i + 1)) = setS (appT m (l.take i)) (nth l i).key (nth l i).aft := by
  rw [List.take_succ_eq_append_getElem h, nth_eq l i h]
  unfold appT
  rw [List.foldl_append]; rfl
theorem getC_none {l : List Chg} {k : Int} (h : k ∉ l.map Chg.key) : getC l k = none := by
  induction l with
  | nil => rfl
  | cons c r ih =>
    simp only [List.map_cons, List.mem_cons, not_or] at h
    unfold getC
    rw [if_neg fun e => h.1 e.symm]
    exact ih h.2
theorem getC_some {l : List Chg} {k : Int} (h : k ∈ l.map Chg.key) : getC l k = some (nth l ((l.map Chg.key).idxOf k)) ∧ (l.map Chg.key).idxOf k < l.length ∧ (nth l ((l.map Chg.key).idxOf k)).key = k := by
  induction l with
  | nil => simp at h
  | cons c r ih =>
    unfold getC
    by_cases hc : c.key = k
    · rw [if_pos hc]
      have e : ((c :: r).map Chg.key).idxOf k = 0 := by rw [List.map_cons, List.idxOf_cons]; simp [hc]
      rw [e]
      exact ⟨rfl, by simp, hc⟩
    · rw [if_neg hc]
      simp only [List.map_cons, List.mem_cons] at h
      have hr := ih (h.resolve_left fun e => hc e.symm)
      have e : ((c :: r).map Chg.key).idxOf k = (r.map Chg.key).idxOf k + 1 := by rw [List.map_cons, List.idxOf_cons, show (c.key == k) = false from by simpa using hc]; rfl
      rw [e]
      have en : nth (c :: r) ((r.map Chg.key).idxOf k + 1) = nth r ((r.map Chg.key).idxOf k) := by simp [nth]
      rw [en]
      exact ⟨hr.1, by simp; exact hr.2.1, hr.2.2⟩
theorem validC_pw {l : List Chg} (h : validC l = true) : (l.map Chg.key).Pairwise (· < ·) := by
  unfold validC at h
  rw [decide_eq_true_eq] at h
  obtain ⟨_, h⟩ := h
  rw [List.pairwise_map, List.pairwise_iff_getElem]
  intro i j hi hj hij
  obtain ⟨d, rfl⟩ : ∃ d, j = i + 1 + d := ⟨j - (i + 1), by omega⟩
  induction d with
  | zero =>
    have := (h (i + 1) hj).2 (by omega)
    rw [show i + 1 - 1 = i by omega, nth_eq l i hi, nth_eq l (i + 1) hj] at this
    exact this
  | succ d ih =>
    have h1 := ih (by omega) (by omega)
    have := (h (i + 1 + (d + 1)) hj).2 (by omega)
    rw [show i + 1 + (d + 1) - 1 = i + 1 + d by omega, nth_eq l _ (by omega), nth_eq l _ hj] at this
    omega
theorem getC_cons (c : Chg) (r : List Chg) (k : Int) : getC (c :: r) k = if c.key = k then some c else getC r k := rfl
theorem appT_look {l : List Chg} (h : (l.map Chg.key).Pairwise (· < ·)) (k : Int) : ∀ m : Tab, lookS (appT m l) k = match getC l k with | some c => c.aft | none => lookS m k := by
  induction l with
  | nil => intro m; rfl
  | cons c r ih =>
    intro m
    rw [List.map_cons, List.pairwise_cons] at h
    have e : appT m (c :: r) = appT (setS m c.key c.aft) r := rfl
    rw [e, ih h.2, lookS_setx, getC_cons]
    by_cases hc : c.key = k
    · rw [if_pos hc, if_pos hc, getC_none]
      intro hm
      have := h.1 k hm; omega
    · rw [if_neg hc, if_neg hc]
theorem appT_keys (l : List Chg) (x : Int) : ∀ m : Tab, x ∈ (appT m l).map Prod.fst ↔ x ∈ m.map Prod.fst ∨ x ∈ l.map Chg.key := by
  induction l with
  | nil => intro m; simp [appT]
  | cons c r ih =>
    intro m
    have e : appT m (c :: r) = appT (setS m c.key c.aft) r := rfl
    rw [e, ih, setS_keys, List.map_cons, List.mem_cons]
    by_cases hk : c.key ∈ m.map Prod.fst
    · rw [if_pos hk]
      constructor
      · rintro (h | h)
        · exact .inl h
        · exact .inr (.inr h)
      · rintro (h | h | h)
        · exact .inl h
        · subst h; exact .inl hk
        · exact .inr h
    · rw [if_neg hk, List.mem_append, List.mem_singleton]
      constructor
      · rintro ((h | h) | h)
        · exact .inl h
        · exact .inr (.inl h)
        · exact .inr (.inr h)
      · rintro (h | h | h)
        · exact .inl (.inl h)
        · exact .inl (.inr h)
        · exact .inr h
theorem appT_nd (l : List Chg) : ∀ m : Tab, (m.map Prod.fst).Nodup → ((appT m l).map Prod.fst).Nodup ∧ (appT m l).length ≤ m.length + l.length := by
  induction l with
  | nil => intro m h; exact ⟨h, by simp [appT]⟩
  | cons c r ih =>
    intro m h
    have e : appT m (c :: r) = appT (setS m c.key c.aft) r := rfl
    obtain ⟨h1, h2⟩ := ih (setS m c.key c.aft) (setS_nd h _ _)
    have := setS_len m c.key c.aft
    rw [e]
    exact ⟨h1, by simp only [List.length_cons]; omega⟩
def appK (a : List (Int × Int)) (l : List Chg) : List Int := insAll (a.map Prod.fst ++ l.map Chg.key)
def appO (a : List (Int × Int)) (l : List Chg) : List (Int × Int) := listR (appF a l) (appK a l)
def appE (a : List (Int × Int)) (l : List Chg) : Int := if validE a && validC l then (if okA a l then (if 64 < (appO a l).length then 6 else 0) else 10) else 1
def appL (a : List (Int × Int)) (l : List Chg) : List (Int × Int) := if appE a l ≠ 0 then [] else appO a l
theorem appT_all {a : List (Int × Int)} {l : List Chg} (hl : validC l = true) : allS (appT (tabS a) l) = appO a l := by
  rw [allS_eq (K := appK a l) (insAll_pw _) fun x => by unfold appK; rw [appT_keys, insAll_mem, List.mem_append, tabS_keys]]
  unfold appO
  refine listR_cong fun k _ => ?_
  rw [appT_look (validC_pw hl), tabS_look]
  rfl
theorem getC_take {l : List Chg} (hl : validC l = true) {i : Nat} (hi : i < l.length) : getC (l.take i) (nth l i).key = none := by
  refine getC_none fun hm => ?_
  obtain ⟨p, hp, e⟩ := List.mem_map.1 hm
  obtain ⟨j, hj, rfl⟩ := List.getElem_of_mem hp
  rw [List.getElem_take, nth_eq l i hi] at e
  have hpw := validC_pw hl
  rw [List.pairwise_map, List.pairwise_iff_getElem] at hpw
  have hj' : j < i := by rw [List.length_take] at hj; omega
  have := hpw j i (by omega) hi hj'
  omega
theorem look_take {a : List (Int × Int)} {l : List Chg} (hl : validC l = true) {i : Nat} (hi : i < l.length) : lookS (appT (tabS a) (l.take i)) (nth l i).key = atR a (nth l i).key := by
  have hp : ((l.take i).map Chg.key).Pairwise (· < ·) := by
    have := validC_pw hl
    rw [List.map_take]
    exact this.sublist (List.take_sublist _ _)
  rw [appT_look hp, getC_take hl hi, tabS_look]
set_option maxHeartbeats 4000000 in
theorem f27 (a : List (Int × Int)) (l : List Chg) : FnR Try.prog 8 [.c (EL a), .c (CL l)] [.own 40 2 ((appL a l).map cdE), .c (.I (appE a l))] := by
  by_cases hv : validE a = true ∧ validC l = true
  · obtain ⟨ha, hlv⟩ := hv
    have hal := validE_len ha
    have hll := validC_len hlv
    have ga := f31q 901 a ha
    have hE : appE a l = if okA a l then (if 64 < (appO a l).length then 6 else 0) else 10 := by unfold appE; rw [if_pos (by simp [ha, hlv])]
    refine fn_walk code8 (by simp) ?_
    (repeat' (first | refine NextAt.mk (fun hc => ?_) (fun pre n v post hc hkey => ?_) | refine Sni.mk (fun hc => ?_) ?_ | refine AW_seq ?_ | refine AW_block ?_ | ((first | refine AW_reg ?_ | refine AW_cond ?_ | refine AW_skip ?_ | refine AW_exit ?_ | refine AW_ret ?_ | refine AW_regD (by kernel_rfl) ?_ | refine AW_regX (by kernel_rfl) ?_ | refine CallAt.mkP (ga ..) (by rfl) (by simp (disch := omega) only [go_sem, Nat.reduceLT, Nat.reduceAdd, Nat.reduceSub, Nat.reduceMul, Nat.reduceMod, Nat.reduceDiv, Nat.reduceBEq, Nat.reduceEqDiff, Nat.reduceLeDiff, reduceCtorEq, ↓reduceIte, beq_dec, Int.reduceToNat, Int.reduceLT, Int.reduceLE, Int.reduceAdd, Int.reduceSub, Int.reduceMul, Int.reduceEq, Int.reduceNeg, Int.reduceNe, Int.toNat_natCast, IntKind.signed, IntKind.bits, Int.reducePow, Nat.reducePow, ha, hlv]) (by rfl) (by rfl) (by first | (intro h; cases h; done) | (intro _; simp [RV.flatP, CD.flatP, flatOb, AO.flatP, ha, hlv]; done)) ?_ | refine CallAtG.t (Eq.refl true) ?_ | refine CallAtG.f (Eq.refl false) ?_ | refine CallAt.mk _ (f20 ..) (by first | (intro h; cases h; done) | (intro _; repeat' (first | exact List.forall_mem_nil _ | trivial | refine List.forall_mem_cons.2 ⟨?_, ?_⟩)) | (intro _; simp [RV.flatP, CD.flatP, ha, hlv]; done)) ?_ | refine CallAtG.mk _ (fun _ => f20 ..) ?_ | refine CallDS.mk _ (by simp [RV.data]) (fun _ => f20 ..) (by first | (intro h; cases h; done) | (intro _; repeat' (first | exact List.forall_mem_nil _ | trivial | refine List.forall_mem_cons.2 ⟨?_, ?_⟩)) | (intro _; simp [RV.flatP, CD.flatP, ha, hlv]; done)) ?_ | refine CallAt.mk _ (f25 ..) (by first | (intro h; cases h; done) | (intro _; repeat' (first | exact List.forall_mem_nil _ | trivial | refine List.forall_mem_cons.2 ⟨?_, ?_⟩)) | (intro _; simp [RV.flatP, CD.flatP, ha, hlv]; done)) ?_ | refine CallAtG.mk _ (fun _ => f25 ..) ?_ | refine CallDS.mk _ (by simp [RV.data]) (fun _ => f25 ..) (by first | (intro h; cases h; done) | (intro _; repeat' (first | exact List.forall_mem_nil _ | trivial | refine List.forall_mem_cons.2 ⟨?_, ?_⟩)) | (intro _; simp [RV.flatP, CD.flatP, ha, hlv]; done)) ?_); try simp (disch := omega) only [go_sem, Nat.reduceLT, Nat.reduceAdd, Nat.reduceSub, Nat.reduceMul, Nat.reduceMod, Nat.reduceDiv, Nat.reduceBEq, Nat.reduceEqDiff, Nat.reduceLeDiff, reduceCtorEq, ↓reduceIte, beq_dec, Int.reduceToNat, Int.reduceLT, Int.reduceLE, Int.reduceAdd, Int.reduceSub, Int.reduceMul, Int.reduceEq, Int.reduceNeg, Int.reduceNe, Int.toNat_natCast, IntKind.signed, IntKind.bits, Int.reducePow, Nat.reducePow, ha, hlv]) | refine And.intro (fun hc => (?_ : AW _ _ _ _)) (fun hc => (?_ : AW _ _ _ _)) | simp (disch := omega) only [go_sem, Nat.reduceLT, Nat.reduceAdd, Nat.reduceSub, Nat.reduceMul, Nat.reduceMod, Nat.reduceDiv, Nat.reduceBEq, Nat.reduceEqDiff, Nat.reduceLeDiff, reduceCtorEq, ↓reduceIte, beq_dec, Int.reduceToNat, Int.reduceLT, Int.reduceLE, Int.reduceAdd, Int.reduceSub, Int.reduceMul, Int.reduceEq, Int.reduceNeg, Int.reduceNe, Int.toNat_natCast, IntKind.signed, IntKind.bits, Int.reducePow, Nat.reducePow, ha, hlv] | (refine And.intro ?_ ?_; focus (first | (intros; omega) | (intros; simp_all; done))) | refine And.intro (?_ : CallAt _ _ _ _ _ _ _ _) ?_ | refine And.intro (?_ : CallAt _ _ _ _ _ _ _ _ ∧ _) ?_ | fail))
    refine AW_loopK [6, 20, 21] [4, 5, 8, 22, 23, 24, 25, 26, 27, 28, 29, 30, 31, 32, 33, 34, 35, 36, 37, 38] (fun i : Nat => i ≤ l.length ∧ ∀ j, j < i → atR a (nth l j).key = (nth l j).bef) (fun i => [(22, .I i)]) (fun i => [(901, .map (.one .i64) (sdM (appT (tabS a) (l.take i))))]) (fun i => l.length - i) 0 ⟨by omega, by omega⟩ ?_ ?_
    · simp (disch := omega) only [go_sem, Nat.reduceLT, Nat.reduceAdd, Nat.reduceSub, Nat.reduceMul, Nat.reduceMod, Nat.reduceDiv, Nat.reduceBEq, Nat.reduceEqDiff, Nat.reduceLeDiff, reduceCtorEq, ↓reduceIte, beq_dec, Int.reduceToNat, Int.reduceLT, Int.reduceLE, Int.reduceAdd, Int.reduceSub, Int.reduceMul, Int.reduceEq, Int.reduceNeg, Int.reduceNe, Int.toNat_natCast, IntKind.signed, IntKind.bits, Int.reducePow, Nat.reducePow, Int.natCast_zero, List.take_zero, appT, List.foldl_nil]
    · rintro i ⟨hi, hb⟩
      have g39 := f39 (nth l i)
      have g40 := f40 (nth l i)
      simp only [Chg.av, Chg.cd, List.map_cons, List.map_nil] at g39 g40
      (repeat' (first | refine NextAt.mk (fun hc => ?_) (fun pre n v post hc hkey => ?_) | refine Sni.mk (fun hc => ?_) ?_ | refine AW_seq ?_ | refine AW_block ?_ | ((first | refine AW_reg ?_ | refine AW_cond ?_ | refine AW_skip ?_ | refine AW_exit ?_ | refine AW_ret ?_ | refine AW_regD (by kernel_rfl) ?_ | refine AW_regX (by kernel_rfl) ?_ | refine CallAtG.t (Eq.refl true) ?_ | refine CallAtG.f (Eq.refl false) ?_ | refine CallAt.mk _ (g39 ..) (by first | (intro h; cases h; done) | (intro _; repeat' (first | exact List.forall_mem_nil _ | trivial | refine List.forall_mem_cons.2 ⟨?_, ?_⟩)) | (intro _; simp [RV.flatP, CD.flatP, getD_map Chg.cd, Chg.cd, sdM_look, List.map_cons, List.map_nil]; done)) ?_ | refine CallAtG.mk _ (fun _ => g39 ..) ?_ | refine CallDS.mk _ (by simp [RV.data]) (fun _ => g39 ..) (by first | (intro h; cases h; done) | (intro _; repeat' (first | exact List.forall_mem_nil _ | trivial | refine List.forall_mem_cons.2 ⟨?_, ?_⟩)) | (intro _; simp [RV.flatP, CD.flatP, getD_map Chg.cd, Chg.cd, sdM_look, List.map_cons, List.map_nil]; done)) ?_ | refine CallAt.mk _ (g40 ..) (by first | (intro h; cases h; done) | (intro _; repeat' (first | exact List.forall_mem_nil _ | trivial | refine List.forall_mem_cons.2 ⟨?_, ?_⟩)) | (intro _; simp [RV.flatP, CD.flatP, getD_map Chg.cd, Chg.cd, sdM_look, List.map_cons, List.map_nil]; done)) ?_ | refine CallAtG.mk _ (fun _ => g40 ..) ?_ | refine CallDS.mk _ (by simp [RV.data]) (fun _ => g40 ..) (by first | (intro h; cases h; done) | (intro _; repeat' (first | exact List.forall_mem_nil _ | trivial | refine List.forall_mem_cons.2 ⟨?_, ?_⟩)) | (intro _; simp [RV.flatP, CD.flatP, getD_map Chg.cd, Chg.cd, sdM_look, List.map_cons, List.map_nil]; done)) ?_); try simp (disch := omega) only [go_sem, Nat.reduceLT, Nat.reduceAdd, Nat.reduceSub, Nat.reduceMul, Nat.reduceMod, Nat.reduceDiv, Nat.reduceBEq, Nat.reduceEqDiff, Nat.reduceLeDiff, reduceCtorEq, ↓reduceIte, beq_dec, Int.reduceToNat, Int.reduceLT, Int.reduceLE, Int.reduceAdd, Int.reduceSub, Int.reduceMul, Int.reduceEq, Int.reduceNeg, Int.reduceNe, Int.toNat_natCast, IntKind.signed, IntKind.bits, Int.reducePow, Nat.reducePow, getD_map Chg.cd, Chg.cd, sdM_look, List.map_cons, List.map_nil]) | refine And.intro (fun hc => (?_ : AW _ _ _ _)) (fun hc => (?_ : AW _ _ _ _)) | simp (disch := omega) only [go_sem, Nat.reduceLT, Nat.reduceAdd, Nat.reduceSub, Nat.reduceMul, Nat.reduceMod, Nat.reduceDiv, Nat.reduceBEq, Nat.reduceEqDiff, Nat.reduceLeDiff, reduceCtorEq, ↓reduceIte, beq_dec, Int.reduceToNat, Int.reduceLT, Int.reduceLE, Int.reduceAdd, Int.reduceSub, Int.reduceMul, Int.reduceEq, Int.reduceNeg, Int.reduceNe, Int.toNat_natCast, IntKind.signed, IntKind.bits, Int.reducePow, Nat.reducePow, getD_map Chg.cd, Chg.cd, sdM_look, List.map_cons, List.map_nil] | (refine And.intro ?_ ?_; focus (first | (intros; omega) | (intros; simp_all; done))) | refine And.intro (?_ : CallAt _ _ _ _ _ _ _ _) ?_ | refine And.intro (?_ : CallAt _ _ _ _ _ _ _ _ ∧ _) ?_ | fail))
      · have hn : okA a l = false := by
          unfold okA
          rw [decide_eq_false_iff_not]
          intro h
          rw [look_take hlv (by omega)] at hc
          have hi' := h i (by omega)
          rw [sd_eq] at hi'
          rcases hc with hc | hc
          · exact hc hi'.1
          · rw [hi'.2] at hc; cases hc
        have he : appE a l = 10 := by rw [hE, hn]; rfl
        have hL : appL a l = [] := by unfold appL; rw [he]; rfl
        rw [hL, he]
        exact ⟨rfl, rfl⟩
      · rw [look_take hlv (by omega), ← sd_eq] at hc
        refine .mk (i + 1) ⟨by omega, step_lt hb hc⟩ (by omega) ?_
        have e := sdM_set (nth l i).key (nth l i).aft (appT (tabS a) (l.take i))
        rw [appT_succ _ l i (by omega), ← e]
        simp (disch := omega) only [go_sem, Nat.reduceLT, Nat.reduceAdd, Nat.reduceSub, Nat.reduceMul, Nat.reduceMod, Nat.reduceDiv, Nat.reduceBEq, Nat.reduceEqDiff, Nat.reduceLeDiff, reduceCtorEq, ↓reduceIte, beq_dec, Int.reduceToNat, Int.reduceLT, Int.reduceLE, Int.reduceAdd, Int.reduceSub, Int.reduceMul, Int.reduceEq, Int.reduceNeg, Int.reduceNe, Int.toNat_natCast, IntKind.signed, IntKind.bits, Int.reducePow, Nat.reducePow, Int.natCast_add, Int.natCast_one, Sd.cd]
      · rw [look_take hlv (by omega), ← sd_eq] at hc
        refine .mk (i + 1) ⟨by omega, step_lt hb hc⟩ (by omega) ?_
        have e := sdM_set (nth l i).key (nth l i).aft (appT (tabS a) (l.take i))
        rw [appT_succ _ l i (by omega), ← e]
        simp (disch := omega) only [go_sem, Nat.reduceLT, Nat.reduceAdd, Nat.reduceSub, Nat.reduceMul, Nat.reduceMod, Nat.reduceDiv, Nat.reduceBEq, Nat.reduceEqDiff, Nat.reduceLeDiff, reduceCtorEq, ↓reduceIte, beq_dec, Int.reduceToNat, Int.reduceLT, Int.reduceLE, Int.reduceAdd, Int.reduceSub, Int.reduceMul, Int.reduceEq, Int.reduceNeg, Int.reduceNe, Int.toNat_natCast, IntKind.signed, IntKind.bits, Int.reducePow, Nat.reducePow, Int.natCast_add, Int.natCast_one, Sd.cd]
      · rw [look_take hlv (by omega), ← sd_eq] at hc
        refine .mk (i + 1) ⟨by omega, step_lt hb hc⟩ (by omega) ?_
        have e := sdM_set (nth l i).key (nth l i).aft (appT (tabS a) (l.take i))
        rw [appT_succ _ l i (by omega), ← e]
        simp (disch := omega) only [go_sem, Nat.reduceLT, Nat.reduceAdd, Nat.reduceSub, Nat.reduceMul, Nat.reduceMod, Nat.reduceDiv, Nat.reduceBEq, Nat.reduceEqDiff, Nat.reduceLeDiff, reduceCtorEq, ↓reduceIte, beq_dec, Int.reduceToNat, Int.reduceLT, Int.reduceLE, Int.reduceAdd, Int.reduceSub, Int.reduceMul, Int.reduceEq, Int.reduceNeg, Int.reduceNe, Int.toNat_natCast, IntKind.signed, IntKind.bits, Int.reducePow, Nat.reducePow, Int.natCast_add, Int.natCast_one, Sd.cd]
      · have hil : i = l.length := by omega
        rw [hil, List.take_length]
        obtain ⟨hnd, hml⟩ := appT_nd l (tabS a) (by rw [tabS_keys]; exact validE_nd ha)
        have htl : (tabS a).length = a.length := by simp [tabS]
        have hok : okA a l = true := by
          unfold okA
          rw [decide_eq_true_eq]
          exact fun j hj => hb j (by omega)
        have g37 := f37 (appT (tabS a) l) hnd (by omega)
        rw [appT_all hlv] at g37
        rw [hok, if_pos rfl] at hE
        refine CallAt.frz [901] ?_
        simp (disch := omega) only [go_sem, Nat.reduceLT, Nat.reduceAdd, Nat.reduceSub, Nat.reduceMul, Nat.reduceMod, Nat.reduceDiv, Nat.reduceBEq, Nat.reduceEqDiff, Nat.reduceLeDiff, reduceCtorEq, ↓reduceIte, beq_dec, Int.reduceToNat, Int.reduceLT, Int.reduceLE, Int.reduceAdd, Int.reduceSub, Int.reduceMul, Int.reduceEq, Int.reduceNeg, Int.reduceNe, Int.toNat_natCast, IntKind.signed, IntKind.bits, Int.reducePow, Nat.reducePow]
        refine CallAt.mk _ g37 (fun h => by cases h) ?_
        (repeat' (first | refine NextAt.mk (fun hc => ?_) (fun pre n v post hc hkey => ?_) | refine Sni.mk (fun hc => ?_) ?_ | refine AW_seq ?_ | refine AW_block ?_ | ((first | refine AW_reg ?_ | refine AW_cond ?_ | refine AW_skip ?_ | refine AW_exit ?_ | refine AW_ret ?_ | refine AW_regD (by kernel_rfl) ?_ | refine AW_regX (by kernel_rfl) ?_ | refine CallAtG.t (Eq.refl true) ?_ | refine CallAtG.f (Eq.refl false) ?_); try simp (disch := omega) only [go_sem, Nat.reduceLT, Nat.reduceAdd, Nat.reduceSub, Nat.reduceMul, Nat.reduceMod, Nat.reduceDiv, Nat.reduceBEq, Nat.reduceEqDiff, Nat.reduceLeDiff, reduceCtorEq, ↓reduceIte, beq_dec, Int.reduceToNat, Int.reduceLT, Int.reduceLE, Int.reduceAdd, Int.reduceSub, Int.reduceMul, Int.reduceEq, Int.reduceNeg, Int.reduceNe, Int.toNat_natCast, IntKind.signed, IntKind.bits, Int.reducePow, Nat.reducePow, List.length_map]) | refine And.intro (fun hc => (?_ : AW _ _ _ _)) (fun hc => (?_ : AW _ _ _ _)) | simp (disch := omega) only [go_sem, Nat.reduceLT, Nat.reduceAdd, Nat.reduceSub, Nat.reduceMul, Nat.reduceMod, Nat.reduceDiv, Nat.reduceBEq, Nat.reduceEqDiff, Nat.reduceLeDiff, reduceCtorEq, ↓reduceIte, beq_dec, Int.reduceToNat, Int.reduceLT, Int.reduceLE, Int.reduceAdd, Int.reduceSub, Int.reduceMul, Int.reduceEq, Int.reduceNeg, Int.reduceNe, Int.toNat_natCast, IntKind.signed, IntKind.bits, Int.reducePow, Nat.reducePow, List.length_map] | (refine And.intro ?_ ?_; focus (first | (intros; omega) | (intros; simp_all; done))) | refine And.intro (?_ : CallAt _ _ _ _ _ _ _ _) ?_ | refine And.intro (?_ : CallAt _ _ _ _ _ _ _ _ ∧ _) ?_ | fail))
        · have he : appE a l = 6 := by rw [hE, if_pos (by omega)]
          have hL : appL a l = [] := by unfold appL; rw [he]; rfl
          rw [hL, he]
          exact ⟨rfl, rfl⟩
        · have he : appE a l = 0 := by rw [hE, if_neg (by omega)]
          have hL : appL a l = appO a l := by unfold appL; rw [he]; rfl
          rw [hL, he]
          exact ⟨rfl, rfl⟩
  · have hE : appE a l = 1 := by
      unfold appE
      rw [if_neg]
      simpa using hv
    have hL : appL a l = [] := by unfold appL; rw [hE]; rfl
    rw [hE, hL]
    refine fn_walk code8 (by simp) ?_
    (repeat' (first | refine NextAt.mk (fun hc => ?_) (fun pre n v post hc hkey => ?_) | refine Sni.mk (fun hc => ?_) ?_ | refine AW_seq ?_ | refine AW_block ?_ | ((first | refine AW_reg ?_ | refine AW_cond ?_ | refine AW_skip ?_ | refine AW_exit ?_ | refine AW_ret ?_ | refine AW_regD (by kernel_rfl) ?_ | refine AW_regX (by kernel_rfl) ?_ | refine CallAtG.t (Eq.refl true) ?_ | refine CallAtG.f (Eq.refl false) ?_ | refine CallAt.mk _ (f20 ..) (by first | (intro h; cases h; done) | (intro _; repeat' (first | exact List.forall_mem_nil _ | trivial | refine List.forall_mem_cons.2 ⟨?_, ?_⟩)) | (intro _; simp [RV.flatP, CD.flatP]; done)) ?_ | refine CallAtG.mk _ (fun _ => f20 ..) ?_ | refine CallDS.mk _ (by simp [RV.data]) (fun _ => f20 ..) (by first | (intro h; cases h; done) | (intro _; repeat' (first | exact List.forall_mem_nil _ | trivial | refine List.forall_mem_cons.2 ⟨?_, ?_⟩)) | (intro _; simp [RV.flatP, CD.flatP]; done)) ?_ | refine CallAt.mk _ (f25 ..) (by first | (intro h; cases h; done) | (intro _; repeat' (first | exact List.forall_mem_nil _ | trivial | refine List.forall_mem_cons.2 ⟨?_, ?_⟩)) | (intro _; simp [RV.flatP, CD.flatP]; done)) ?_ | refine CallAtG.mk _ (fun _ => f25 ..) ?_ | refine CallDS.mk _ (by simp [RV.data]) (fun _ => f25 ..) (by first | (intro h; cases h; done) | (intro _; repeat' (first | exact List.forall_mem_nil _ | trivial | refine List.forall_mem_cons.2 ⟨?_, ?_⟩)) | (intro _; simp [RV.flatP, CD.flatP]; done)) ?_); try simp (disch := omega) only [go_sem, Nat.reduceLT, Nat.reduceAdd, Nat.reduceSub, Nat.reduceMul, Nat.reduceMod, Nat.reduceDiv, Nat.reduceBEq, Nat.reduceEqDiff, Nat.reduceLeDiff, reduceCtorEq, ↓reduceIte, beq_dec, Int.reduceToNat, Int.reduceLT, Int.reduceLE, Int.reduceAdd, Int.reduceSub, Int.reduceMul, Int.reduceEq, Int.reduceNeg, Int.reduceNe, Int.toNat_natCast, IntKind.signed, IntKind.bits, Int.reducePow, Nat.reducePow]) | refine And.intro (fun hc => (?_ : AW _ _ _ _)) (fun hc => (?_ : AW _ _ _ _)) | simp (disch := omega) only [go_sem, Nat.reduceLT, Nat.reduceAdd, Nat.reduceSub, Nat.reduceMul, Nat.reduceMod, Nat.reduceDiv, Nat.reduceBEq, Nat.reduceEqDiff, Nat.reduceLeDiff, reduceCtorEq, ↓reduceIte, beq_dec, Int.reduceToNat, Int.reduceLT, Int.reduceLE, Int.reduceAdd, Int.reduceSub, Int.reduceMul, Int.reduceEq, Int.reduceNeg, Int.reduceNe, Int.toNat_natCast, IntKind.signed, IntKind.bits, Int.reducePow, Nat.reducePow] | (refine And.intro ?_ ?_; focus (first | (intros; omega) | (intros; simp_all; done))) | refine And.intro (?_ : CallAt _ _ _ _ _ _ _ _) ?_ | refine And.intro (?_ : CallAt _ _ _ _ _ _ _ _ ∧ _) ?_ | fail))
    all_goals (exfalso; exact hv ⟨by simp_all, by simp_all⟩)
end Go.Proofs.Ythpnplebcmijnaa

-- P p_w.txt
open Go Go.AL Go.RowKit Go.Shelf
namespace Go.Proofs.Ythpnplebcmijnaa
set_option maxRecDepth 20000
/-! ### the plain law: changes lead from one side to the other -/
theorem K2_mem (a b : List (Int × Int)) (x : Int) : x ∈ K2 a b ↔ x ∈ a.map Prod.fst ∨ x ∈ b.map Prod.fst := by
  unfold K2; rw [insAll_mem, List.mem_append]
theorem K2_comm (a b : List (Int × Int)) : K2 a b = K2 b a := pw_ext (insAll_pw _) (insAll_pw _) fun x => by
  rw [K2_mem, K2_mem]; exact Or.comm
theorem mkC_bef (k : Int) (x y : Sd) : (mkC k x y).bef = x := rfl
theorem mkC_aft (k : Int) (x y : Sd) : (mkC k x y).aft = y := rfl
theorem mkC_key (k : Int) (x y : Sd) : (mkC k x y).key = k := rfl
theorem invC_mk (k : Int) (x y : Sd) : invC (mkC k x y) = mkC k y x := rfl
theorem diffP_cons (f g : Int → Sd) (k : Int) (r : List Int) : diffP f g (k :: r) = (if f k = g k then [] else [mkC k (f k) (g k)]) ++ diffP f g r := by unfold diffP; rw [List.flatMap_cons]
theorem diffP_inv (f g : Int → Sd) (K : List Int) : (diffP f g K).map invC = diffP g f K := by
  induction K with
  | nil => rfl
  | cons k r ih =>
    rw [diffP_cons, diffP_cons, List.map_append, ih]
    by_cases h : f k = g k
    · rw [if_pos h, if_pos h.symm]; rfl
    · rw [if_neg h, if_neg fun e => h e.symm]; rfl
theorem diffO_inv (a b : List (Int × Int)) : (diffO a b).map invC = diffO b a := by
  unfold diffO
  rw [diffP_inv, K2_comm]
theorem diffP_mem (f g : Int → Sd) (K : List Int) (c : Chg) : c ∈ diffP f g K ↔ c.key ∈ K ∧ f c.key ≠ g c.key ∧ c = mkC c.key (f c.key) (g c.key) := by
  unfold diffP
  rw [List.mem_flatMap]
  constructor
  · rintro ⟨k, hk, hc⟩
    split at hc
    · simp at hc
    · rename_i hne
      rw [List.mem_singleton] at hc
      subst hc
      exact ⟨hk, hne, rfl⟩
  · rintro ⟨hk, hne, hc⟩
    refine ⟨c.key, hk, ?_⟩
    rw [if_neg hne, List.mem_singleton]
    exact hc
theorem diffP_pw (f g : Int → Sd) {K : List Int} (hK : K.Pairwise (· < ·)) : ((diffP f g K).map Chg.key).Pairwise (· < ·) := by
  induction K with
  | nil => simp [diffP]
  | cons k r ih =>
    rw [List.pairwise_cons] at hK
    rw [diffP_cons, List.map_append, List.pairwise_append]
    refine ⟨by split <;> simp, ih hK.2, fun x hx y hy => ?_⟩
    obtain ⟨c, hc, rfl⟩ := List.mem_map.1 hy
    rw [diffP_mem] at hc
    split at hx
    · simp at hx
    · simp at hx
      subst hx
      exact hK.1 _ hc.1
theorem validC_of {l : List Chg} (hp : (l.map Chg.key).Pairwise (· < ·)) (hl : l.length ≤ 64) (ho : ∀ c ∈ l, chgOk c = true) : validC l = true := by
  unfold validC
  rw [decide_eq_true_eq]
  refine ⟨hl, fun i hi => ⟨ho _ (nth_mem l i hi), fun h0 => ?_⟩⟩
  rw [List.pairwise_map, List.pairwise_iff_getElem] at hp
  rw [nth_eq l i hi, nth_eq l (i - 1) (by omega)]
  exact hp (i - 1) i (by omega) hi (by omega)
theorem chgOk_mk {k : Int} {x y : Sd} (h : x ≠ y) (hx : x.is = false → x = ⟨0, false⟩) (hy : y.is = false → y = ⟨0, false⟩) : chgOk (mkC k x y) = true := by
  rw [chgOk_iff]
  have hne := (sd_ne x y).1 h
  refine ⟨⟨hne, ?_⟩, ?_⟩
  · cases hi : x.is with
    | true => exact .inl hi
    | false => exact .inr (by rw [hx hi]; rfl)
  · cases hi : y.is with
    | true => exact .inl hi
    | false => exact .inr (by rw [hy hi]; rfl)
theorem diffO_valid {a b : List (Int × Int)} (hl : (diffO a b).length ≤ 64) : validC (diffO a b) = true := by
  refine validC_of (diffP_pw _ _ (insAll_pw _)) hl fun c hc => ?_
  unfold diffO at hc
  rw [diffP_mem] at hc
  rw [hc.2.2]
  exact chgOk_mk hc.2.1 (atR_zero a _) (atR_zero b _)
theorem getC_diff (f g : Int → Sd) {K : List Int} (hK : K.Pairwise (· < ·)) (k : Int) : getC (diffP f g K) k = if k ∈ K ∧ f k ≠ g k then some (mkC k (f k) (g k)) else none := by
  split
  · rename_i h
    have hm : mkC k (f k) (g k) ∈ diffP f g K := (diffP_mem _ _ _ _).2 ⟨h.1, h.2, rfl⟩
    have hk : k ∈ (diffP f g K).map Chg.key := List.mem_map.2 ⟨_, hm, rfl⟩
    obtain ⟨h1, h2, h3⟩ := getC_some hk
    rw [h1]
    have hc := nth_mem (diffP f g K) _ h2
    rw [diffP_mem] at hc
    rw [hc.2.2, h3]
  · rename_i h
    refine getC_none fun hm => h ?_
    obtain ⟨c, hc, rfl⟩ := List.mem_map.1 hm
    rw [diffP_mem] at hc
    exact ⟨hc.1, hc.2.1⟩
theorem appF_diff (a b : List (Int × Int)) (k : Int) : appF a (diffO a b) k = atR b k := by
  unfold appF diffO
  rw [getC_diff _ _ (K := K2 a b) (insAll_pw _)]
  by_cases h : k ∈ K2 a b ∧ atR a k ≠ atR b k
  · rw [if_pos h]; rfl
  · rw [if_neg h]
    by_cases hk : k ∈ K2 a b
    · exact Classical.byContradiction fun hne => h ⟨hk, hne⟩
    · rw [K2_mem, not_or] at hk
      show atR a k = atR b k
      rw [atR_no hk.1, atR_no hk.2]
theorem atR_in {l : List (Int × Int)} {k : Int} (h : k ∈ l.map Prod.fst) : (atR l k).is = true := by
  induction l with
  | nil => simp at h
  | cons p r ih =>
    unfold atR
    split
    · rfl
    · rename_i hp
      simp only [List.map_cons, List.mem_cons] at h
      exact ih (h.resolve_left fun e => hp e.symm)
theorem lead {a b : List (Int × Int)} (ha : validE a = true) (hb : validE b = true) (hl : (diffO a b).length ≤ 64) : appE a (diffO a b) = 0 ∧ appL a (diffO a b) = b := by
  have hO : appO a (diffO a b) = b := by
    unfold appO
    rw [listR_cong (g := atR b) fun k _ => appF_diff a b k]
    refine listR_atR (validE_pwP hb) (insAll_pw _) fun k hk => ?_
    unfold appK
    rw [insAll_mem, List.mem_append]
    by_cases hka : k ∈ a.map Prod.fst
    · exact .inl hka
    · refine .inr (List.mem_map.2 ⟨mkC k (atR a k) (atR b k), (diffP_mem _ _ _ _).2 ⟨(K2_mem a b k).2 (.inr hk), ?_, rfl⟩, rfl⟩)
      rw [mkC_key, atR_no hka]
      intro e
      have := atR_in hk
      rw [← e] at this; cases this
  have hok : okA a (diffO a b) = true := by
    unfold okA
    rw [decide_eq_true_eq]
    intro i hi
    have hc := nth_mem (diffO a b) i hi
    unfold diffO at hc
    rw [diffP_mem] at hc
    have e : (nth (diffO a b) i).bef = atR a (nth (diffO a b) i).key := congrArg Chg.bef hc.2.2
    exact e.symm
  have he : appE a (diffO a b) = 0 := by
    unfold appE
    rw [if_pos (by simp [ha, diffO_valid hl]), if_pos hok, hO, if_neg (by have := validE_len hb; omega)]
  refine ⟨he, ?_⟩
  unfold appL
  rw [he, hO]; rfl
theorem diffE_comm (a b : List (Int × Int)) : diffE a b = diffE b a := by
  unfold diffE
  have hl : (diffO b a).length = (diffO a b).length := by rw [← diffO_inv, List.length_map]
  rw [hl, Bool.and_comm]
theorem diffL_ok {a b : List (Int × Int)} (h : diffE a b = 0) : validE a = true ∧ validE b = true ∧ (diffO a b).length ≤ 64 ∧ diffL a b = diffO a b := by
  have hL : diffL a b = diffO a b := by unfold diffL; rw [h]; rfl
  unfold diffE at h
  by_cases hv : (validE a && validE b) = true
  · rw [if_pos hv] at h
    rw [Bool.and_eq_true] at hv
    by_cases hl : 64 < (diffO a b).length
    · rw [if_pos hl] at h; cases h
    · exact ⟨hv.1, hv.2, by omega, hL⟩
  · rw [if_neg hv] at h; cases h
theorem diffL_no {a b : List (Int × Int)} (h : diffE a b ≠ 0) : diffL a b = [] := by
  unfold diffL; rw [if_pos h]
theorem inv_lead {a b : List (Int × Int)} (hl : (diffO a b).length ≤ 64) : invE (diffO a b) = 0 ∧ invL (diffO a b) = diffO b a := by
  have hv := diffO_valid hl
  unfold invE invL
  rw [if_pos hv, if_pos hv, diffO_inv]
  exact ⟨rfl, rfl⟩
theorem diff_self {a : List (Int × Int)} (ha : validE a = true) : diffE a a = 0 ∧ diffL a a = [] := by
  have hO : diffO a a = [] := by
    unfold diffO
    rw [List.eq_nil_iff_forall_not_mem]
    intro c hc
    rw [diffP_mem] at hc
    exact hc.2.1 rfl
  have he : diffE a a = 0 := by
    unfold diffE
    rw [if_pos (by simp [ha]), hO]; rfl
  refine ⟨he, ?_⟩
  unfold diffL
  rw [he, hO]; rfl
end Go.Proofs.Ythpnplebcmijnaa

-- P p_w.txt
open Go Go.AL Go.RowKit Go.Shelf
namespace Go.Proofs.Ythpnplebcmijnaa
set_option maxRecDepth 20000
/-! ### tables of changes -/
abbrev CTab := List (Int × Chg)
def zC : Chg := ⟨0, 0, 0, false, false⟩
def chM (m : CTab) : List (List Int × Sum CD (List CD)) := m.map fun p => ([p.1], .inr p.2.cd)
def lookC : CTab → Int → Option Chg
  | [], _ => none
  | p :: r, k => if p.1 = k then some p.2 else lookC r k
def putC : CTab → Int → Chg → CTab
  | [], k, s => [(k, s)]
  | p :: r, k, s => if p.1 = k then (p.1, s) :: r else p :: putC r k s
def delC : CTab → Int → CTab
  | [], _ => []
  | p :: r, k => if p.1 = k then r else p :: delC r k
theorem chM_mlook (k : Int) : ∀ m : CTab, mlook (chM m) [k] = (lookC m k).map fun c => .inr c.cd
  | [] => rfl
  | p :: r => by
    have ih := chM_mlook k r
    simp only [chM, List.map_cons, mlook] at ih ⊢
    by_cases h : p.1 = k
    · have e : [k] = [p.1] := by rw [h]
      simp [lookC, h]
    · have hne : ¬ [k] = [p.1] := fun e => h (by simpa using e.symm)
      simp only [hne, if_false, ih, lookC, h]
theorem chM_look (m : CTab) (k : Int) : argAV ((mlook (chM m) [k]).getD (.inr [.sc (.int .i64 0), .sc (.int .i64 0), .sc (.int .i64 0), .sc (.bool false), .sc (.bool false)])) = ((lookC m k).getD zC).av := by
  rw [chM_mlook]
  cases lookC m k <;> rfl
theorem chM_is (m : CTab) (k : Int) : (mlook (chM m) [k]).isSome = (lookC m k).isSome := by
  rw [chM_mlook]
  cases lookC m k <;> rfl
theorem chM_put (k : Int) (s : Chg) : ∀ m : CTab, mset (chM m) [k] (.inr s.cd) = chM (putC m k s)
  | [] => rfl
  | p :: r => by
    have ih := chM_put k s r
    simp only [chM, List.map_cons, mset] at ih ⊢
    by_cases h : p.1 = k
    · simp [putC, h]
    · have hne : ¬ [k] = [p.1] := fun e => h (by simpa using e.symm)
      simp [hne, ih, putC, h]
theorem chM_del (k : Int) : ∀ m : CTab, mdel (chM m) [k] = chM (delC m k)
  | [] => rfl
  | p :: r => by
    have ih := chM_del k r
    simp only [chM, List.map_cons, mdel] at ih ⊢
    by_cases h : p.1 = k
    · simp [delC, h]
    · have hne : ¬ [k] = [p.1] := fun e => h (by simpa using e.symm)
      simp [hne, ih, delC, h]
theorem chM_keys (m : CTab) : keysI (chM m) = m.map Prod.fst := by
  unfold keysI chM; rw [List.map_map]; rfl
theorem chM_nd {m : CTab} (h : (m.map Prod.fst).Nodup) : ((chM m).map Prod.fst).Nodup := by
  unfold chM
  rw [List.map_map, List.nodup_iff_pairwise_ne, List.pairwise_map]
  rw [List.nodup_iff_pairwise_ne, List.pairwise_map] at h
  exact h.imp fun hne e => hne (by simpa using e)
theorem chM_len (m : CTab) : (chM m).length = m.length := by simp [chM]
theorem putC_keys (k : Int) (s : Chg) : ∀ m : CTab, (putC m k s).map Prod.fst = if k ∈ m.map Prod.fst then m.map Prod.fst else m.map Prod.fst ++ [k]
  | [] => rfl
  | p :: r => by
    have ih := putC_keys k s r
    unfold putC
    by_cases h : p.1 = k
    · simp [h]
    · have h' : ¬ k = p.1 := fun e => h e.symm
      simp only [h, if_false, List.map_cons, ih, List.mem_cons, h', false_or]
      split <;> simp
theorem putC_nd {m : CTab} (h : (m.map Prod.fst).Nodup) (k : Int) (s : Chg) : ((putC m k s).map Prod.fst).Nodup := by
  rw [putC_keys]
  split
  · exact h
  · rename_i hni
    rw [List.nodup_append]
    refine ⟨h, by simp, fun a ha b hb e => ?_⟩
    rw [List.mem_singleton] at hb
    subst hb e
    exact hni ha
theorem putC_len (m : CTab) (k : Int) (s : Chg) : (putC m k s).length ≤ m.length + 1 := by
  have := congrArg List.length (putC_keys k s m)
  rw [List.length_map] at this
  rw [this]
  split <;> simp
theorem delC_sub (k : Int) : ∀ m : CTab, (delC m k).Sublist m
  | [] => List.Sublist.refl _
  | p :: r => by
    unfold delC
    split
    · exact List.sublist_cons_self _ _
    · exact (delC_sub k r).cons_cons _
theorem delC_nd {m : CTab} (h : (m.map Prod.fst).Nodup) (k : Int) : ((delC m k).map Prod.fst).Nodup := h.sublist ((delC_sub k m).map _)
theorem lookC_none {m : CTab} {k : Int} (h : k ∉ m.map Prod.fst) : lookC m k = none := by
  induction m with
  | nil => rfl
  | cons p r ih =>
    simp only [List.map_cons, List.mem_cons, not_or] at h
    unfold lookC
    rw [if_neg fun e => h.1 e.symm]
    exact ih h.2
theorem lookC_is {m : CTab} {k : Int} : (lookC m k).isSome = true ↔ k ∈ m.map Prod.fst := by
  induction m with
  | nil => simp [lookC]
  | cons p r ih =>
    have e : lookC (p :: r) k = if p.1 = k then some p.2 else lookC r k := rfl
    rw [e, List.map_cons, List.mem_cons]
    by_cases h : p.1 = k
    · rw [if_pos h]; simp [h]
    · rw [if_neg h, ih]
      exact ⟨.inr, fun h' => h'.resolve_left fun e => h e.symm⟩
theorem lookC_put (m : CTab) (k : Int) (s : Chg) (x : Int) : lookC (putC m k s) x = if k = x then some s else lookC m x := by
  induction m with
  | nil => simp [putC, lookC]
  | cons p r ih =>
    unfold putC
    by_cases h : p.1 = k
    · rw [if_pos h]
      unfold lookC
      by_cases hx : k = x
      · rw [if_pos hx, if_pos (by rw [h, hx])]
      · rw [if_neg hx, if_neg (by rw [h]; exact hx), if_neg (by rw [h]; exact hx)]
    · rw [if_neg h]
      unfold lookC
      rw [ih]
      by_cases hp : p.1 = x
      · rw [if_pos hp, if_pos hp, if_neg]
        intro e; exact h (by rw [hp, e])
      · rw [if_neg hp, if_neg hp]
theorem lookC_del {m : CTab} (hn : (m.map Prod.fst).Nodup) (k x : Int) : lookC (delC m k) x = if k = x then none else lookC m x := by
  induction m with
  | nil => simp [delC, lookC]
  | cons p r ih =>
    rw [List.map_cons, List.nodup_cons] at hn
    unfold delC
    by_cases h : p.1 = k
    · rw [if_pos h]
      by_cases hx : k = x
      · rw [if_pos hx, lookC_none]
        rw [← hx, ← h]; exact hn.1
      · rw [if_neg hx]
        unfold lookC
        rw [if_neg (by rw [h]; exact hx)]
        cases r <;> rfl
    · rw [if_neg h]
      unfold lookC
      rw [ih hn.2]
      by_cases hp : p.1 = x
      · rw [if_pos hp, if_pos hp, if_neg]
        intro e; exact h (by rw [hp, e])
      · rw [if_neg hp, if_neg hp]
/-! ### composing -/
def chT (p : List Chg) : CTab := p.map fun c => (c.key, c)
theorem chT_look (p : List Chg) (k : Int) : lookC (chT p) k = getC p k := by
  induction p with
  | nil => rfl
  | cons c r ih =>
    have e : lookC (chT (c :: r)) k = if c.key = k then some c else lookC (chT r) k := rfl
    rw [e, ih, getC_cons]
theorem chT_keys (p : List Chg) : (chT p).map Prod.fst = p.map Chg.key := by
  unfold chT; rw [List.map_map]; rfl
theorem putC_new : ∀ {m : CTab} {k : Int} {s : Chg}, k ∉ m.map Prod.fst → putC m k s = m ++ [(k, s)]
  | [], k, s, _ => rfl
  | p :: r, k, s, h => by
    simp only [List.map_cons, List.mem_cons, not_or] at h
    have : ¬ p.1 = k := fun e => h.1 e.symm
    unfold putC
    rw [if_neg this, putC_new h.2]; rfl
theorem chT_succ {p : List Chg} (h : validC p = true) {i : Nat} (hi : i < p.length) : putC (chT (p.take i)) (nth p i).key (nth p i) = chT (p.take (i + 1)) := by
  rw [putC_new, List.take_succ_eq_append_getElem hi, nth_eq p i hi]
  · unfold chT; rw [List.map_append]; rfl
  · intro hm
    have h1 := getC_take h hi
    have h2 := lookC_is.2 hm
    rw [chT_look, h1] at h2
    cases h2
def stepC (m : CTab) (c : Chg) : CTab := match lookC m c.key with
  | none => putC m c.key c
  | some o => if o.bef = c.aft then delC m c.key else putC m c.key (mkC c.key o.bef c.aft)
def comT (p q : List Chg) : CTab := q.foldl stepC (chT p)
theorem comT_succ (p q : List Chg) (i : Nat) (h : i < q.length) : comT p (q.take (i + 1)) = stepC (comT p (q.take i)) (nth q i) := by
  rw [List.take_succ_eq_append_getElem h, nth_eq q i h]
  unfold comT
  rw [List.foldl_append]; rfl
theorem stepC_nd {m : CTab} (h : (m.map Prod.fst).Nodup) (c : Chg) : ((stepC m c).map Prod.fst).Nodup ∧ (stepC m c).length ≤ m.length + 1 := by
  unfold stepC
  split
  · exact ⟨putC_nd h _ _, putC_len _ _ _⟩
  · split
    · exact ⟨delC_nd h _, by have := (delC_sub c.key m).length_le; omega⟩
    · exact ⟨putC_nd h _ _, putC_len _ _ _⟩
theorem chT_nd {p : List Chg} (h : validC p = true) : ((chT p).map Prod.fst).Nodup := by
  rw [chT_keys, List.nodup_iff_pairwise_ne]
  exact (validC_pw h).imp fun h => by omega
theorem comT_nd {p : List Chg} (h : validC p = true) (q : List Chg) : ∀ i, i ≤ q.length → ((comT p (q.take i)).map Prod.fst).Nodup ∧ (comT p (q.take i)).length ≤ p.length + i := by
  intro i
  induction i with
  | zero => intro _; exact ⟨by simpa [comT] using chT_nd h, by simp [comT, chT]⟩
  | succ i ih =>
    intro hi
    have ⟨h1, h2⟩ := ih (by omega)
    have ⟨h3, h4⟩ := stepC_nd h1 (nth q i)
    rw [comT_succ p q i (by omega)]
    exact ⟨h3, by omega⟩
/-- the change of a key in the composed list -/
def comX (p q : List Chg) (k : Int) : Option Chg := match getC p k, getC q k with
  | o, none => o
  | none, some d => some d
  | some c, some d => if c.bef = d.aft then none else some (mkC k c.bef d.aft)
def okB (p : List Chg) (d : Chg) : Bool := match getC p d.key with
  | none => true
  | some c => decide (c.aft = d.bef)
def okC (p q : List Chg) : Bool := decide (∀ i, i < q.length → okB p (nth q i) = true)
def comK (p q : List Chg) : List Int := insAll (p.map Chg.key ++ q.map Chg.key)
def comO (p q : List Chg) : List Chg := (comK p q).flatMap fun k => (comX p q k).toList
def comE (p q : List Chg) : Int := if validC p && validC q then (if okC p q then (if 64 < (comO p q).length then 6 else 0) else 10) else 1
def comL (p q : List Chg) : List Chg := if comE p q ≠ 0 then [] else comO p q
theorem getC_key {l : List Chg} {k : Int} {c : Chg} (h : getC l k = some c) : c.key = k := by
  by_cases hk : k ∈ l.map Chg.key
  · obtain ⟨h1, h2, h3⟩ := getC_some hk
    rw [h1] at h
    cases h; exact h3
  · rw [getC_none hk] at h; cases h
theorem getC_take_succ {q : List Chg} {i : Nat} (hi : i < q.length) (k : Int) (hk : (nth q i).key ≠ k) : getC (q.take (i + 1)) k = getC (q.take i) k := by
  rw [List.take_succ_eq_append_getElem hi]
  rw [nth_eq q i hi] at hk
  generalize q.take i = l
  induction l with
  | nil => simp [getC, hk]
  | cons c r ih =>
    rw [List.cons_append, getC_cons, getC_cons, ih]
theorem getC_take_self {q : List Chg} (hq : validC q = true) {i : Nat} (hi : i < q.length) : getC (q.take (i + 1)) (nth q i).key = some (nth q i) := by
  have h := getC_take hq hi
  rw [List.take_succ_eq_append_getElem hi]
  rw [nth_eq q i hi] at h ⊢
  generalize q.take i = l at h
  induction l with
  | nil => simp [getC]
  | cons c r ih =>
    rw [getC_cons] at h
    rw [List.cons_append, getC_cons]
    by_cases hc : c.key = q[i].key
    · rw [if_pos hc] at h; cases h
    · rw [if_neg hc] at h ⊢; exact ih h
theorem comT_look {p q : List Chg} (hp : validC p = true) (hq : validC q = true) (k : Int) : ∀ i, i ≤ q.length → lookC (comT p (q.take i)) k = comX p (q.take i) k := by
  intro i
  induction i with
  | zero =>
    intro _
    rw [List.take_zero]
    show lookC (chT p) k = comX p [] k
    rw [chT_look]
    unfold comX
    have : getC [] k = none := rfl
    rw [this]
  | succ i ih =>
    intro hi
    have ih := ih (by omega)
    have hnd := (comT_nd hp q i (by omega)).1
    rw [comT_succ p q i (by omega)]
    by_cases hk : (nth q i).key = k
    · subst hk
      have h1 := getC_take hq (i := i) (by omega)
      have h2 := getC_take_self hq (i := i) (by omega)
      unfold comX at ih ⊢
      rw [h1] at ih
      rw [h2]
      unfold stepC
      rw [ih]
      cases getC p (nth q i).key with
      | none => simp only []; rw [lookC_put, if_pos rfl]
      | some o =>
        simp only []
        split
        · rw [lookC_del hnd, if_pos rfl]
        · rw [lookC_put, if_pos rfl]
    · have h1 := getC_take_succ (q := q) (i := i) (by omega) k hk
      have e : comX p (q.take (i + 1)) k = comX p (q.take i) k := by unfold comX; rw [h1]
      rw [e, ← ih]
      unfold stepC
      split
      · rw [lookC_put, if_neg hk]
      · split
        · rw [lookC_del hnd, if_neg hk]
        · rw [lookC_put, if_neg hk]
end Go.Proofs.Ythpnplebcmijnaa

