/-
  Lemmas for the proof: no statement of its own.
-/
import Derived.Test.YtklkehlccjofoaaWalkD
set_option linter.unusedVariables false
set_option linter.unusedSimpArgs false
-- P p_12.txt
open Go Go.AL Go.RowKit Go.Shelf
namespace Go.Proofs.Ytklkehlccjofoaa
set_option maxRecDepth 20000
def getC : List Chg → Int → Option Chg
  | [], _ => none
  | c :: r, k => if c.key = k then some c else getC r k
def appT (m : Tab) (l : List Chg) : Tab := l.foldl (fun m c => setS m c.key c.aft) m
def appF (a : List (Int × Int)) (l : List Chg) (k : Int) : Sd := match getC l k with
  | some c => c.aft
  | none => atR a k
def okA (a : List (Int × Int)) (l : List Chg) : Bool := decide (∀ i, i < l.length → atR a (nth l i).key = (nth l i).bef)
theorem appT_succ (m : Tab) (l : List Chg) (i : Nat) (h : i < l.length) : appT m (l.take (i + 1)) = setS (appT m (l.take i)) (nth l i).key (nth l i).aft := by
  rw [List.take_succ_eq_append_getElem h, nth_eq l i h]
  unfold appT
  rw [List.foldl_append]; rfl
theorem getC_none {l : List Chg} {k : Int} (h : k ∉ l.map Chg.key) : getC l k = none := by
  induction l with
  | nil => rfl
  | cons c r ih =>
    simp only [List.map_cons, List.mem_cons, not_or] at h
    unfold getC
    rw [if_neg fun e => h.1 e.symm]
    exact ih h.2
theorem getC_some {l : List Chg} {k : Int} (h : k ∈ l.map Chg.key) : getC l k = some (nth l ((l.map Chg.key).idxOf k)) ∧ (l.map Chg.key).idxOf k < l.length ∧ (nth l ((l.map Chg.key).idxOf k)).key = k := by
  induction l with
  | nil => simp at h
  | cons c r ih =>
    unfold getC
    by_cases hc : c.key = k
    · rw [if_pos hc]
      have e : ((c :: r).map Chg.key).idxOf k = 0 := by rw [List.map_cons, List.idxOf_cons]; simp [hc]
      rw [e]
      exact ⟨rfl, by simp, hc⟩
    · rw [if_neg hc]
      simp only [List.map_cons, List.mem_cons] at h
      have hr := ih (h.resolve_left fun e => hc e.symm)
      have e : ((c :: r).map Chg.key).idxOf k = (r.map Chg.key).idxOf k + 1 := by rw [List.map_cons, List.idxOf_cons, show (c.key == k) = false from by simpa using hc]; rfl
      rw [e]
      have en : nth (c :: r) ((r.map Chg.key).idxOf k + 1) = nth r ((r.map Chg.key).idxOf k) := by simp [nth]
      rw [en]
      exact ⟨hr.1, by simp; exact hr.2.1, hr.2.2⟩
theorem validC_pw {l : List Chg} (h : validC l = true) : (l.map Chg.key).Pairwise (· < ·) := by
  unfold validC at h
  rw [decide_eq_true_eq] at h
  obtain ⟨_, h⟩ := h
  rw [List.pairwise_map, List.pairwise_iff_getElem]
  intro i j hi hj hij
  obtain ⟨d, rfl⟩ : ∃ d, j = i + 1 + d := ⟨j - (i + 1), by omega⟩
  induction d with
  | zero =>
    have := (h (i + 1) hj).2 (by omega)
    rw [show i + 1 - 1 = i by omega, nth_eq l i hi, nth_eq l (i + 1) hj] at this
    exact this
  | succ d ih =>
    have h1 := ih (by omega) (by omega)
    have := (h (i + 1 + (d + 1)) hj).2 (by omega)
    rw [show i + 1 + (d + 1) - 1 = i + 1 + d by omega, nth_eq l _ (by omega), nth_eq l _ hj] at this
    omega
theorem getC_cons (c : Chg) (r : List Chg) (k : Int) : getC (c :: r) k = if c.key = k then some c else getC r k := rfl
theorem appT_look {l : List Chg} (h : (l.map Chg.key).Pairwise (· < ·)) (k : Int) : ∀ m : Tab, lookS (appT m l) k = match getC l k with | some c => c.aft | none => lookS m k := by
  induction l with
  | nil => intro m; rfl
  | cons c r ih =>
    intro m
    rw [List.map_cons, List.pairwise_cons] at h
    have e : appT m (c :: r) = appT (setS m c.key c.aft) r := rfl
    rw [e, ih h.2, lookS_setx, getC_cons]
    by_cases hc : c.key = k
    · rw [if_pos hc, if_pos hc, getC_none]
      intro hm
      have := h.1 k hm; omega
    · rw [if_neg hc, if_neg hc]
theorem appT_keys (l : List Chg) (x : Int) : ∀ m : Tab, x ∈ (appT m l).map Prod.fst ↔ x ∈ m.map Prod.fst ∨ x ∈ l.map Chg.key := by
  induction l with
  | nil => intro m; simp [appT]
  | cons c r ih =>
    intro m
    have e : appT m (c :: r) = appT (setS m c.key c.aft) r := rfl
    rw [e, ih, setS_keys, List.map_cons, List.mem_cons]
    by_cases hk : c.key ∈ m.map Prod.fst
    · rw [if_pos hk]
      constructor
      · rintro (h | h)
        · exact .inl h
        · exact .inr (.inr h)
      · rintro (h | h | h)
        · exact .inl h
        · subst h; exact .inl hk
        · exact .inr h
    · rw [if_neg hk, List.mem_append, List.mem_singleton]
      constructor
      · rintro ((h | h) | h)
        · exact .inl h
        · exact .inr (.inl h)
        · exact .inr (.inr h)
      · rintro (h | h | h)
        · exact .inl (.inl h)
        · exact .inl (.inr h)
        · exact .inr h
theorem appT_nd (l : List Chg) : ∀ m : Tab, (m.map Prod.fst).Nodup → ((appT m l).map Prod.fst).Nodup ∧ (appT m l).length ≤ m.length + l.length := by
  induction l with
  | nil => intro m h; exact ⟨h, by simp [appT]⟩
  | cons c r ih =>
    intro m h
    have e : appT m (c :: r) = appT (setS m c.key c.aft) r := rfl
    obtain ⟨h1, h2⟩ := ih (setS m c.key c.aft) (setS_nd h _ _)
    have := setS_len m c.key c.aft
    rw [e]
    exact ⟨h1, by simp only [List.length_cons]; omega⟩
def appK (a : List (Int × Int)) (l : List Chg) : List Int := insAll (a.map Prod.fst ++ l.map Chg.key)
def appO (a : List (Int × Int)) (l : List Chg) : List (Int × Int) := listR (appF a l) (appK a l)
def appE (a : List (Int × Int)) (l : List Chg) : Int := if validE a && validC l then (if okA a l then (if 64 < (appO a l).length then 6 else 0) else 10) else 1
def appL (a : List (Int × Int)) (l : List Chg) : List (Int × Int) := if appE a l ≠ 0 then [] else appO a l
theorem appT_all {a : List (Int × Int)} {l : List Chg} (hl : validC l = true) : allS (appT (tabS a) l) = appO a l := by
  rw [allS_eq (K := appK a l) (insAll_pw _) fun x => by unfold appK; rw [appT_keys, insAll_mem, List.mem_append, tabS_keys]]
  unfold appO
  refine listR_cong fun k _ => ?_
  rw [appT_look (validC_pw hl), tabS_look]
  rfl
theorem getC_take {l : List Chg} (hl : validC l = true) {i : Nat} (hi : i < l.length) : getC (l.take i) (nth l i).key = none := by
  refine getC_none fun hm => ?_
  obtain ⟨p, hp, e⟩ := List.mem_map.1 hm
  obtain ⟨j, hj, rfl⟩ := List.getElem_of_mem hp
  rw [List.getElem_take, nth_eq l i hi] at e
  have hpw := validC_pw hl
  rw [List.pairwise_map, List.pairwise_iff_getElem] at hpw
  have hj' : j < i := by rw [List.length_take] at hj; omega
  have := hpw j i (by omega) hi hj'
  omega
theorem look_take {a : List (Int × Int)} {l : List Chg} (hl : validC l = true) {i : Nat} (hi : i < l.length) : lookS (appT (tabS a) (l.take i)) (nth l i).key = atR a (nth l i).key := by
  have hp : ((l.take i).map Chg.key).Pairwise (· < ·) := by
    have := validC_pw hl
    rw [List.map_take]
    exact this.sublist (List.take_sublist _ _)
  rw [appT_look hp, getC_take hl hi, tabS_look]
set_option maxHeartbeats 4000000 in
theorem f27 (a : List (Int × Int)) (l : List Chg) : FnR Try.prog 27 [.c (EL a), .c (CL l)] [.own 43 2 ((appL a l).map cdE), .c (.I (appE a l))] := by
  by_cases hv : validE a = true ∧ validC l = true
  · obtain ⟨ha, hlv⟩ := hv
    have hal := validE_len ha
    have hll := validC_len hlv
    have ga := f31q 901 a ha
    have hE : appE a l = if okA a l then (if 64 < (appO a l).length then 6 else 0) else 10 := by unfold appE; rw [if_pos (by simp [ha, hlv])]
    refine fn_walk code27 (by simp) ?_
    (repeat' (first | refine NextAt.mk (fun hc => ?_) (fun pre n v post hc hkey => ?_) | refine Sni.mk (fun hc => ?_) ?_ | refine AW_seq ?_ | refine AW_block ?_ | ((first | refine AW_reg ?_ | refine AW_cond ?_ | refine AW_skip ?_ | refine AW_exit ?_ | refine AW_ret ?_ | refine AW_regD (by kernel_rfl) ?_ | refine AW_regX (by kernel_rfl) ?_ | refine CallAt.mkP (ga ..) (by rfl) (by simp (disch := omega) only [go_sem, Nat.reduceLT, Nat.reduceAdd, Nat.reduceSub, Nat.reduceMul, Nat.reduceMod, Nat.reduceDiv, Nat.reduceBEq, Nat.reduceEqDiff, Nat.reduceLeDiff, reduceCtorEq, ↓reduceIte, beq_dec, Int.reduceToNat, Int.reduceLT, Int.reduceLE, Int.reduceAdd, Int.reduceSub, Int.reduceMul, Int.reduceEq, Int.reduceNeg, Int.reduceNe, Int.toNat_natCast, IntKind.signed, IntKind.bits, Int.reducePow, Nat.reducePow, ha, hlv]) (by rfl) (by rfl) (by first | (intro h; cases h; done) | (intro _; simp [RV.flatP, CD.flatP, flatOb, AO.flatP, ha, hlv]; done)) ?_ | refine CallAtG.t (Eq.refl true) ?_ | refine CallAtG.f (Eq.refl false) ?_ | refine CallAt.mk _ (f20 ..) (by first | (intro h; cases h; done) | (intro _; repeat' (first | exact List.forall_mem_nil _ | trivial | refine List.forall_mem_cons.2 ⟨?_, ?_⟩)) | (intro _; simp [RV.flatP, CD.flatP, ha, hlv]; done)) ?_ | refine CallAtG.mk _ (fun _ => f20 ..) ?_ | refine CallDS.mk _ (by simp [RV.data]) (fun _ => f20 ..) (by first | (intro h; cases h; done) | (intro _; repeat' (first | exact List.forall_mem_nil _ | trivial | refine List.forall_mem_cons.2 ⟨?_, ?_⟩)) | (intro _; simp [RV.flatP, CD.flatP, ha, hlv]; done)) ?_ | refine CallAt.mk _ (f25 ..) (by first | (intro h; cases h; done) | (intro _; repeat' (first | exact List.forall_mem_nil _ | trivial | refine List.forall_mem_cons.2 ⟨?_, ?_⟩)) | (intro _; simp [RV.flatP, CD.flatP, ha, hlv]; done)) ?_ | refine CallAtG.mk _ (fun _ => f25 ..) ?_ | refine CallDS.mk _ (by simp [RV.data]) (fun _ => f25 ..) (by first | (intro h; cases h; done) | (intro _; repeat' (first | exact List.forall_mem_nil _ | trivial | refine List.forall_mem_cons.2 ⟨?_, ?_⟩)) | (intro _; simp [RV.flatP, CD.flatP, ha, hlv]; done)) ?_); try simp (disch := omega) only [go_sem, Nat.reduceLT, Nat.reduceAdd, Nat.reduceSub, Nat.reduceMul, Nat.reduceMod, Nat.reduceDiv, Nat.reduceBEq, Nat.reduceEqDiff, Nat.reduceLeDiff, reduceCtorEq, ↓reduceIte, beq_dec, Int.reduceToNat, Int.reduceLT, Int.reduceLE, Int.reduceAdd, Int.reduceSub, Int.reduceMul, Int.reduceEq, Int.reduceNeg, Int.reduceNe, Int.toNat_natCast, IntKind.signed, IntKind.bits, Int.reducePow, Nat.reducePow, ha, hlv]) | refine And.intro (fun hc => (?_ : AW _ _ _ _)) (fun hc => (?_ : AW _ _ _ _)) | simp (disch := omega) only [go_sem, Nat.reduceLT, Nat.reduceAdd, Nat.reduceSub, Nat.reduceMul, Nat.reduceMod, Nat.reduceDiv, Nat.reduceBEq, Nat.reduceEqDiff, Nat.reduceLeDiff, reduceCtorEq, ↓reduceIte, beq_dec, Int.reduceToNat, Int.reduceLT, Int.reduceLE, Int.reduceAdd, Int.reduceSub, Int.reduceMul, Int.reduceEq, Int.reduceNeg, Int.reduceNe, Int.toNat_natCast, IntKind.signed, IntKind.bits, Int.reducePow, Nat.reducePow, ha, hlv] | (refine And.intro ?_ ?_; focus (first | (intros; omega) | (intros; simp_all; done))) | refine And.intro (?_ : CallAt _ _ _ _ _ _ _ _) ?_ | refine And.intro (?_ : CallAt _ _ _ _ _ _ _ _ ∧ _) ?_ | fail))
    refine AW_loopK [6, 20, 21] [4, 5, 8, 22, 23, 24, 25, 26, 27, 28, 29, 30, 31, 32, 33, 34, 35, 36, 37, 38] (fun i : Nat => i ≤ l.length ∧ ∀ j, j < i → atR a (nth l j).key = (nth l j).bef) (fun i => [(22, .I i)]) (fun i => [(901, .map (.one .i64) (sdM (appT (tabS a) (l.take i))))]) (fun i => l.length - i) 0 ⟨by omega, by omega⟩ ?_ ?_
    · simp (disch := omega) only [go_sem, Nat.reduceLT, Nat.reduceAdd, Nat.reduceSub, Nat.reduceMul, Nat.reduceMod, Nat.reduceDiv, Nat.reduceBEq, Nat.reduceEqDiff, Nat.reduceLeDiff, reduceCtorEq, ↓reduceIte, beq_dec, Int.reduceToNat, Int.reduceLT, Int.reduceLE, Int.reduceAdd, Int.reduceSub, Int.reduceMul, Int.reduceEq, Int.reduceNeg, Int.reduceNe, Int.toNat_natCast, IntKind.signed, IntKind.bits, Int.reducePow, Nat.reducePow, Int.natCast_zero, List.take_zero, appT, List.foldl_nil]
    · rintro i ⟨hi, hb⟩
      have g39 := f39 (nth l i)
      have g40 := f40 (nth l i)
      simp only [Chg.av, Chg.cd, List.map_cons, List.map_nil] at g39 g40
      (repeat' (first | refine NextAt.mk (fun hc => ?_) (fun pre n v post hc hkey => ?_) | refine Sni.mk (fun hc => ?_) ?_ | refine AW_seq ?_ | refine AW_block ?_ | ((first | refine AW_reg ?_ | refine AW_cond ?_ | refine AW_skip ?_ | refine AW_exit ?_ | refine AW_ret ?_ | refine AW_regD (by kernel_rfl) ?_ | refine AW_regX (by kernel_rfl) ?_ | refine CallAtG.t (Eq.refl true) ?_ | refine CallAtG.f (Eq.refl false) ?_ | refine CallAt.mk _ (g39 ..) (by first | (intro h; cases h; done) | (intro _; repeat' (first | exact List.forall_mem_nil _ | trivial | refine List.forall_mem_cons.2 ⟨?_, ?_⟩)) | (intro _; simp [RV.flatP, CD.flatP, getD_map Chg.cd, Chg.cd, sdM_look, List.map_cons, List.map_nil]; done)) ?_ | refine CallAtG.mk _ (fun _ => g39 ..) ?_ | refine CallDS.mk _ (by simp [RV.data]) (fun _ => g39 ..) (by first | (intro h; cases h; done) | (intro _; repeat' (first | exact List.forall_mem_nil _ | trivial | refine List.forall_mem_cons.2 ⟨?_, ?_⟩)) | (intro _; simp [RV.flatP, CD.flatP, getD_map Chg.cd, Chg.cd, sdM_look, List.map_cons, List.map_nil]; done)) ?_ | refine CallAt.mk _ (g40 ..) (by first | (intro h; cases h; done) | (intro _; repeat' (first | exact List.forall_mem_nil _ | trivial | refine List.forall_mem_cons.2 ⟨?_, ?_⟩)) | (intro _; simp [RV.flatP, CD.flatP, getD_map Chg.cd, Chg.cd, sdM_look, List.map_cons, List.map_nil]; done)) ?_ | refine CallAtG.mk _ (fun _ => g40 ..) ?_ | refine CallDS.mk _ (by simp [RV.data]) (fun _ => g40 ..) (by first | (intro h; cases h; done) | (intro _; repeat' (first | exact List.forall_mem_nil _ | trivial | refine List.forall_mem_cons.2 ⟨?_, ?_⟩)) | (intro _; simp [RV.flatP, CD.flatP, getD_map Chg.cd, Chg.cd, sdM_look, List.map_cons, List.map_nil]; done)) ?_); try simp (disch := omega) only [go_sem, Nat.reduceLT, Nat.reduceAdd, Nat.reduceSub, Nat.reduceMul, Nat.reduceMod, Nat.reduceDiv, Nat.reduceBEq, Nat.reduceEqDiff, Nat.reduceLeDiff, reduceCtorEq, ↓reduceIte, beq_dec, Int.reduceToNat, Int.reduceLT, Int.reduceLE, Int.reduceAdd, Int.reduceSub, Int.reduceMul, Int.reduceEq, Int.reduceNeg, Int.reduceNe, Int.toNat_natCast, IntKind.signed, IntKind.bits, Int.reducePow, Nat.reducePow, getD_map Chg.cd, Chg.cd, sdM_look, List.map_cons, List.map_nil]) | refine And.intro (fun hc => (?_ : AW _ _ _ _)) (fun hc => (?_ : AW _ _ _ _)) | simp (disch := omega) only [go_sem, Nat.reduceLT, Nat.reduceAdd, Nat.reduceSub, Nat.reduceMul, Nat.reduceMod, Nat.reduceDiv, Nat.reduceBEq, Nat.reduceEqDiff, Nat.reduceLeDiff, reduceCtorEq, ↓reduceIte, beq_dec, Int.reduceToNat, Int.reduceLT, Int.reduceLE, Int.reduceAdd, Int.reduceSub, Int.reduceMul, Int.reduceEq, Int.reduceNeg, Int.reduceNe, Int.toNat_natCast, IntKind.signed, IntKind.bits, Int.reducePow, Nat.reducePow, getD_map Chg.cd, Chg.cd, sdM_look, List.map_cons, List.map_nil] | (refine And.intro ?_ ?_; focus (first | (intros; omega) | (intros; simp_all; done))) | refine And.intro (?_ : CallAt _ _ _ _ _ _ _ _) ?_ | refine And.intro (?_ : CallAt _ _ _ _ _ _ _ _ ∧ _) ?_ | fail))
      · have hn : okA a l = false := by
          unfold okA
          rw [decide_eq_false_iff_not]
          intro h
          rw [look_take hlv (by omega)] at hc
          have hi' := h i (by omega)
          rw [sd_eq] at hi'
          rcases hc with hc | hc
          · exact hc hi'.1
          · rw [hi'.2] at hc; cases hc
        have he : appE a l = 10 := by rw [hE, hn]; rfl
        have hL : appL a l = [] := by unfold appL; rw [he]; rfl
        rw [hL, he]
        exact ⟨rfl, rfl⟩
      · rw [look_take hlv (by omega), ← sd_eq] at hc
        refine .mk (i + 1) ⟨by omega, step_lt hb hc⟩ (by omega) ?_
        have e := sdM_set (nth l i).key (nth l i).aft (appT (tabS a) (l.take i))
        rw [appT_succ _ l i (by omega), ← e]
        simp (disch := omega) only [go_sem, Nat.reduceLT, Nat.reduceAdd, Nat.reduceSub, Nat.reduceMul, Nat.reduceMod, Nat.reduceDiv, Nat.reduceBEq, Nat.reduceEqDiff, Nat.reduceLeDiff, reduceCtorEq, ↓reduceIte, beq_dec, Int.reduceToNat, Int.reduceLT, Int.reduceLE, Int.reduceAdd, Int.reduceSub, Int.reduceMul, Int.reduceEq, Int.reduceNeg, Int.reduceNe, Int.toNat_natCast, IntKind.signed, IntKind.bits, Int.reducePow, Nat.reducePow, Int.natCast_add, Int.natCast_one, Sd.cd]
      · rw [look_take hlv (by omega), ← sd_eq] at hc
        refine .mk (i + 1) ⟨by omega, step_lt hb hc⟩ (by omega) ?_
        have e := sdM_set (nth l i).key (nth l i).aft (appT (tabS a) (l.take i))
        rw [appT_succ _ l i (by omega), ← e]
        simp (disch := omega) only [go_sem, Nat.reduceLT, Nat.reduceAdd, Nat.reduceSub, Nat.reduceMul, Nat.reduceMod, Nat.reduceDiv, Nat.reduceBEq, Nat.reduceEqDiff, Nat.reduceLeDiff, reduceCtorEq, ↓reduceIte, beq_dec, Int.reduceToNat, Int.reduceLT, Int.reduceLE, Int.reduceAdd, Int.reduceSub, Int.reduceMul, Int.reduceEq, Int.reduceNeg, Int.reduceNe, Int.toNat_natCast, IntKind.signed, IntKind.bits, Int.reducePow, Nat.reducePow, Int.natCast_add, Int.natCast_one, Sd.cd]
      · rw [look_take hlv (by omega), ← sd_eq] at hc
        refine .mk (i + 1) ⟨by omega, step_lt hb hc⟩ (by omega) ?_
        have e := sdM_set (nth l i).key (nth l i).aft (appT (tabS a) (l.take i))
        rw [appT_succ _ l i (by omega), ← e]
        simp (disch := omega) only [go_sem, Nat.reduceLT, Nat.reduceAdd, Nat.reduceSub, Nat.reduceMul, Nat.reduceMod, Nat.reduceDiv, Nat.reduceBEq, Nat.reduceEqDiff, Nat.reduceLeDiff, reduceCtorEq, ↓reduceIte, beq_dec, Int.reduceToNat, Int.reduceLT, Int.reduceLE, Int.reduceAdd, Int.reduceSub, Int.reduceMul, Int.reduceEq, Int.reduceNeg, Int.reduceNe, Int.toNat_natCast, IntKind.signed, IntKind.bits, Int.reducePow, Nat.reducePow, Int.natCast_add, Int.natCast_one, Sd.cd]
      · have hil : i = l.length := by omega
        rw [hil, List.take_length]
        obtain ⟨hnd, hml⟩ := appT_nd l (tabS a) (by rw [tabS_keys]; exact validE_nd ha)
        have htl : (tabS a).length = a.length := by simp [tabS]
        have hok : okA a l = true := by
          unfold okA
          rw [decide_eq_true_eq]
          exact fun j hj => hb j (by omega)
        have g37 := f37 (appT (tabS a) l) hnd (by omega)
        rw [appT_all hlv] at g37
        rw [hok, if_pos rfl] at hE
        refine CallAt.frz [901] ?_
        simp (disch := omega) only [go_sem, Nat.reduceLT, Nat.reduceAdd, Nat.reduceSub, Nat.reduceMul, Nat.reduceMod, Nat.reduceDiv, Nat.reduceBEq, Nat.reduceEqDiff, Nat.reduceLeDiff, reduceCtorEq, ↓reduceIte, beq_dec, Int.reduceToNat, Int.reduceLT, Int.reduceLE, Int.reduceAdd, Int.reduceSub, Int.reduceMul, Int.reduceEq, Int.reduceNeg, Int.reduceNe, Int.toNat_natCast, IntKind.signed, IntKind.bits, Int.reducePow, Nat.reducePow]
        refine CallAt.mk _ g37 (fun h => by cases h) ?_
        (repeat' (first | refine NextAt.mk (fun hc => ?_) (fun pre n v post hc hkey => ?_) | refine Sni.mk (fun hc => ?_) ?_ | refine AW_seq ?_ | refine AW_block ?_ | ((first | refine AW_reg ?_ | refine AW_cond ?_ | refine AW_skip ?_ | refine AW_exit ?_ | refine AW_ret ?_ | refine AW_regD (by kernel_rfl) ?_ | refine AW_regX (by kernel_rfl) ?_ | refine CallAtG.t (Eq.refl true) ?_ | refine CallAtG.f (Eq.refl false) ?_); try simp (disch := omega) only [go_sem, Nat.reduceLT, Nat.reduceAdd, Nat.reduceSub, Nat.reduceMul, Nat.reduceMod, Nat.reduceDiv, Nat.reduceBEq, Nat.reduceEqDiff, Nat.reduceLeDiff, reduceCtorEq, ↓reduceIte, beq_dec, Int.reduceToNat, Int.reduceLT, Int.reduceLE, Int.reduceAdd, Int.reduceSub, Int.reduceMul, Int.reduceEq, Int.reduceNeg, Int.reduceNe, Int.toNat_natCast, IntKind.signed, IntKind.bits, Int.reducePow, Nat.reducePow, List.length_map]) | refine And.intro (fun hc => (?_ : AW _ _ _ _)) (fun hc => (?_ : AW _ _ _ _)) | simp (disch := omega) only [go_sem, Nat.reduceLT, Nat.reduceAdd, Nat.reduceSub, Nat.reduceMul, Nat.reduceMod, Nat.reduceDiv, Nat.reduceBEq, Nat.reduceEqDiff, Nat.reduceLeDiff, reduceCtorEq, ↓reduceIte, beq_dec, Int.reduceToNat, Int.reduceLT, Int.reduceLE, Int.reduceAdd, Int.reduceSub, Int.reduceMul, Int.reduceEq, Int.reduceNeg, Int.reduceNe, Int.toNat_natCast, IntKind.signed, IntKind.bits, Int.reducePow, Nat.reducePow, List.length_map] | (refine And.intro ?_ ?_; focus (first | (intros; omega) | (intros; simp_all; done))) | refine And.intro (?_ : CallAt _ _ _ _ _ _ _ _) ?_ | refine And.intro (?_ : CallAt _ _ _ _ _ _ _ _ ∧ _) ?_ | fail))
        · have he : appE a l = 6 := by rw [hE, if_pos (by omega)]
          have hL : appL a l = [] := by unfold appL; rw [he]; rfl
          rw [hL, he]
          exact ⟨rfl, rfl⟩
        · have he : appE a l = 0 := by rw [hE, if_neg (by omega)]
          have hL : appL a l = appO a l := by unfold appL; rw [he]; rfl
          rw [hL, he]
          exact ⟨rfl, rfl⟩
  · have hE : appE a l = 1 := by
      unfold appE
      rw [if_neg]
      simpa using hv
    have hL : appL a l = [] := by unfold appL; rw [hE]; rfl
    rw [hE, hL]
    refine fn_walk code27 (by simp) ?_
    (repeat' (first | refine NextAt.mk (fun hc => ?_) (fun pre n v post hc hkey => ?_) | refine Sni.mk (fun hc => ?_) ?_ | refine AW_seq ?_ | refine AW_block ?_ | ((first | refine AW_reg ?_ | refine AW_cond ?_ | refine AW_skip ?_ | refine AW_exit ?_ | refine AW_ret ?_ | refine AW_regD (by kernel_rfl) ?_ | refine AW_regX (by kernel_rfl) ?_ | refine CallAtG.t (Eq.refl true) ?_ | refine CallAtG.f (Eq.refl false) ?_ | refine CallAt.mk _ (f20 ..) (by first | (intro h; cases h; done) | (intro _; repeat' (first | exact List.forall_mem_nil _ | trivial | refine List.forall_mem_cons.2 ⟨?_, ?_⟩)) | (intro _; simp [RV.flatP, CD.flatP]; done)) ?_ | refine CallAtG.mk _ (fun _ => f20 ..) ?_ | refine CallDS.mk _ (by simp [RV.data]) (fun _ => f20 ..) (by first | (intro h; cases h; done) | (intro _; repeat' (first | exact List.forall_mem_nil _ | trivial | refine List.forall_mem_cons.2 ⟨?_, ?_⟩)) | (intro _; simp [RV.flatP, CD.flatP]; done)) ?_ | refine CallAt.mk _ (f25 ..) (by first | (intro h; cases h; done) | (intro _; repeat' (first | exact List.forall_mem_nil _ | trivial | refine List.forall_mem_cons.2 ⟨?_, ?_⟩)) | (intro _; simp [RV.flatP, CD.flatP]; done)) ?_ | refine CallAtG.mk _ (fun _ => f25 ..) ?_ | refine CallDS.mk _ (by simp [RV.data]) (fun _ => f25 ..) (by first | (intro h; cases h; done) | (intro _; repeat' (first | exact List.forall_mem_nil _ | trivial | refine List.forall_mem_cons.2 ⟨?_, ?_⟩)) | (intro _; simp [RV.flatP, CD.flatP]; done)) ?_); try simp (disch := omega) only [go_sem, Nat.reduceLT, Nat.reduceAdd, Nat.reduceSub, Nat.reduceMul, Nat.reduceMod, Nat.reduceDiv, Nat.reduceBEq, Nat.reduceEqDiff, Nat.reduceLeDiff, reduceCtorEq, ↓reduceIte, beq_dec, Int.reduceToNat, Int.reduceLT, Int.reduceLE, Int.reduceAdd, Int.reduceSub, Int.reduceMul, Int.reduceEq, Int.reduceNeg, Int.reduceNe, Int.toNat_natCast, IntKind.signed, IntKind.bits, Int.reducePow, Nat.reducePow]) | refine And.intro (fun hc => (?_ : AW _ _ _ _)) (fun hc => (?_ : AW _ _ _ _)) | simp (disch := omega) only [go_sem, Nat.reduceLT, Nat.reduceAdd, Nat.reduceSub, Nat.reduceMul, Nat.reduceMod, Nat.reduceDiv, Nat.reduceBEq, Nat.reduceEqDiff, Nat.reduceLeDiff, reduceCtorEq, ↓reduceIte, beq_dec, Int.reduceToNat, Int.reduceLT, Int.reduceLE, Int.reduceAdd, Int.reduceSub, Int.reduceMul, Int.reduceEq, Int.reduceNeg, Int.reduceNe, Int.toNat_natCast, IntKind.signed, IntKind.bits, Int.reducePow, Nat.reducePow] | (refine And.intro ?_ ?_; focus (first | (intros; omega) | (intros; simp_all; done))) | refine And.intro (?_ : CallAt _ _ _ _ _ _ _ _) ?_ | refine And.intro (?_ : CallAt _ _ _ _ _ _ _ _ ∧ _) ?_ | fail))
    all_goals (exfalso; exact hv ⟨by simp_all, by simp_all⟩)
end Go.Proofs.Ytklkehlccjofoaa

-- P p_12.txt
open Go Go.AL Go.RowKit Go.Shelf
namespace Go.Proofs.Ytklkehlccjofoaa
set_option maxRecDepth 20000
theorem t28 {Q : Exit → St → Prop} {σ : St} (h : stepsD Try.prog (tailQ Try.prog Q [⟨(some 80), .call 38 [(.t 74), (.t 78), (.t 79)], none⟩, ⟨(some 8), .mv (.t 80), none⟩]) [(⟨(some 74), .mv (.t 8), none⟩, [8]), (⟨(some 75), .mv (.t 6), none⟩, [6]), (⟨(some 76), .mv (.t 9), none⟩, [9]), (⟨(some 77), .iad 1 (.t 75) (.t 76), none⟩, [75, 76]), (⟨(some 78), .ld none (.t 77), none⟩, [77]), (⟨(some 79), .ld (some 2) (.t 10), none⟩, [10])] σ) : AW Try.prog c28_38 Q σ := AW_regDT 6 (by kernel_rfl) (by decide) (by decide +kernel) h
theorem findR_get (l : List Chg) (k : Int) : (0 ≤ findR l k ∧ (findR l k).toNat < l.length ∧ getC l k = some (nth l (findR l k).toNat)) ∨ (findR l k = -1 ∧ getC l k = none) := by
  unfold findR
  by_cases h : k ∈ l.map Chg.key
  · obtain ⟨h1, h2, _⟩ := getC_some h
    rw [if_pos h]
    exact .inl ⟨by omega, by simpa using h2, by simpa using h1⟩
  · rw [if_neg h]
    exact .inr ⟨rfl, getC_none h⟩
theorem listR_succ (f : Int → Sd) (K : List Int) (i : Nat) (h : i < K.length) : listR f (K.take (i + 1)) = putL (listR f (K.take i)) (nth K i) (f (nth K i)) := by
  rw [List.take_succ_eq_append_getElem h, nth_eq K i h]
  unfold listR putL
  rw [List.flatMap_append]
  simp only [List.flatMap_cons, List.flatMap_nil, List.append_nil]
  split <;> simp
def kA (a : List (Int × Int)) (l : List Chg) (i : Nat) : List Int := insAll (a.map Prod.fst ++ (l.take i).map Chg.key)
theorem kA_succ (a : List (Int × Int)) (l : List Chg) (i : Nat) (h : i < l.length) : kA a l (i + 1) = ins (nth l i).key (kA a l i) := by
  unfold kA
  rw [List.take_succ_eq_append_getElem h, List.map_append, ← List.append_assoc, List.map_cons, List.map_nil, insAll_snoc, nth_eq l i h]
theorem kA_len (a : List (Int × Int)) (l : List Chg) (i : Nat) : (kA a l i).length ≤ a.length + l.length := by
  have h := @insAll_nodup_len (a.map Prod.fst ++ (l.take i).map Chg.key)
  rw [List.length_append, List.length_map, List.length_map, List.length_take] at h
  unfold kA; omega
set_option maxHeartbeats 4000000 in
theorem f28 (a : List (Int × Int)) (l : List Chg) : FnR Try.prog 28 [.c (EL a), .c (CL l)] [.own 43 2 ((appL a l).map cdE), .c (.I (appE a l))] := by
  by_cases hv : validE a = true ∧ validC l = true
  · obtain ⟨ha, hlv⟩ := hv
    have hal := validE_len ha
    have hll := validC_len hlv
    have hE : appE a l = if okA a l then (if 64 < (appO a l).length then 6 else 0) else 10 := by unfold appE; rw [if_pos (by simp [ha, hlv])]
    have g34 : FnR Try.prog 34 [.c (.sl 1 [[EL a]])] [.c (Row (kA a l 0))] := by
      have := f34 [a] (by unfold keysE; simp; omega)
      have e : keysE [a] = a.map Prod.fst := by unfold keysE; simp
      rw [e] at this
      unfold kA
      rw [List.take_zero, List.map_nil, List.append_nil]
      exact this
    refine fn_walk code28 (by simp) ?_
    (repeat' (first | refine NextAt.mk (fun hc => ?_) (fun pre n v post hc hkey => ?_) | refine Sni.mk (fun hc => ?_) ?_ | refine AW_seq ?_ | refine AW_block ?_ | ((first | refine AW_reg ?_ | refine AW_cond ?_ | refine AW_skip ?_ | refine AW_exit ?_ | refine AW_ret ?_ | refine AW_regD (by kernel_rfl) ?_ | refine AW_regX (by kernel_rfl) ?_ | refine CallAtG.t (Eq.refl true) ?_ | refine CallAtG.f (Eq.refl false) ?_ | refine CallAt.mk _ (f24 ..) (by first | (intro h; cases h; done) | (intro _; repeat' (first | exact List.forall_mem_nil _ | trivial | refine List.forall_mem_cons.2 ⟨?_, ?_⟩)) | (intro _; simp [RV.flatP, CD.flatP, ha, hlv]; done)) ?_ | refine CallAtG.mk _ (fun _ => f24 ..) ?_ | refine CallDS.mk _ (by simp [RV.data]) (fun _ => f24 ..) (by first | (intro h; cases h; done) | (intro _; repeat' (first | exact List.forall_mem_nil _ | trivial | refine List.forall_mem_cons.2 ⟨?_, ?_⟩)) | (intro _; simp [RV.flatP, CD.flatP, ha, hlv]; done)) ?_ | refine CallAt.mk _ (f26 ..) (by first | (intro h; cases h; done) | (intro _; repeat' (first | exact List.forall_mem_nil _ | trivial | refine List.forall_mem_cons.2 ⟨?_, ?_⟩)) | (intro _; simp [RV.flatP, CD.flatP, ha, hlv]; done)) ?_ | refine CallAtG.mk _ (fun _ => f26 ..) ?_ | refine CallDS.mk _ (by simp [RV.data]) (fun _ => f26 ..) (by first | (intro h; cases h; done) | (intro _; repeat' (first | exact List.forall_mem_nil _ | trivial | refine List.forall_mem_cons.2 ⟨?_, ?_⟩)) | (intro _; simp [RV.flatP, CD.flatP, ha, hlv]; done)) ?_); try simp (disch := omega) only [go_sem, Nat.reduceLT, Nat.reduceAdd, Nat.reduceSub, Nat.reduceMul, Nat.reduceMod, Nat.reduceDiv, Nat.reduceBEq, Nat.reduceEqDiff, Nat.reduceLeDiff, reduceCtorEq, ↓reduceIte, beq_dec, Int.reduceToNat, Int.reduceLT, Int.reduceLE, Int.reduceAdd, Int.reduceSub, Int.reduceMul, Int.reduceEq, Int.reduceNeg, Int.reduceNe, Int.toNat_natCast, IntKind.signed, IntKind.bits, Int.reducePow, Nat.reducePow, ha, hlv]) | refine And.intro (fun hc => (?_ : AW _ _ _ _)) (fun hc => (?_ : AW _ _ _ _)) | simp (disch := omega) only [go_sem, Nat.reduceLT, Nat.reduceAdd, Nat.reduceSub, Nat.reduceMul, Nat.reduceMod, Nat.reduceDiv, Nat.reduceBEq, Nat.reduceEqDiff, Nat.reduceLeDiff, reduceCtorEq, ↓reduceIte, beq_dec, Int.reduceToNat, Int.reduceLT, Int.reduceLE, Int.reduceAdd, Int.reduceSub, Int.reduceMul, Int.reduceEq, Int.reduceNeg, Int.reduceNe, Int.toNat_natCast, IntKind.signed, IntKind.bits, Int.reducePow, Nat.reducePow, ha, hlv] | (refine And.intro ?_ ?_; focus (first | (intros; omega) | (intros; simp_all; done))) | refine And.intro (?_ : CallAt _ _ _ _ _ _ _ _) ?_ | refine And.intro (?_ : CallAt _ _ _ _ _ _ _ _ ∧ _) ?_ | fail))
    refine CallAt.frz [21] ?_
    simp (disch := omega) only [go_sem, Nat.reduceLT, Nat.reduceAdd, Nat.reduceSub, Nat.reduceMul, Nat.reduceMod, Nat.reduceDiv, Nat.reduceBEq, Nat.reduceEqDiff, Nat.reduceLeDiff, reduceCtorEq, ↓reduceIte, beq_dec, Int.reduceToNat, Int.reduceLT, Int.reduceLE, Int.reduceAdd, Int.reduceSub, Int.reduceMul, Int.reduceEq, Int.reduceNeg, Int.reduceNe, Int.toNat_natCast, IntKind.signed, IntKind.bits, Int.reducePow, Nat.reducePow]
    refine CallAt.mk _ g34 (fun h => by cases h) ?_
    (repeat' (first | refine NextAt.mk (fun hc => ?_) (fun pre n v post hc hkey => ?_) | refine Sni.mk (fun hc => ?_) ?_ | refine AW_seq ?_ | refine AW_block ?_ | ((first | refine AW_reg ?_ | refine AW_cond ?_ | refine AW_skip ?_ | refine AW_exit ?_ | refine AW_ret ?_ | refine AW_regD (by kernel_rfl) ?_ | refine AW_regX (by kernel_rfl) ?_ | refine CallAtG.t (Eq.refl true) ?_ | refine CallAtG.f (Eq.refl false) ?_); try simp (disch := omega) only [go_sem, Nat.reduceLT, Nat.reduceAdd, Nat.reduceSub, Nat.reduceMul, Nat.reduceMod, Nat.reduceDiv, Nat.reduceBEq, Nat.reduceEqDiff, Nat.reduceLeDiff, reduceCtorEq, ↓reduceIte, beq_dec, Int.reduceToNat, Int.reduceLT, Int.reduceLE, Int.reduceAdd, Int.reduceSub, Int.reduceMul, Int.reduceEq, Int.reduceNeg, Int.reduceNe, Int.toNat_natCast, IntKind.signed, IntKind.bits, Int.reducePow, Nat.reducePow]) | refine And.intro (fun hc => (?_ : AW _ _ _ _)) (fun hc => (?_ : AW _ _ _ _)) | simp (disch := omega) only [go_sem, Nat.reduceLT, Nat.reduceAdd, Nat.reduceSub, Nat.reduceMul, Nat.reduceMod, Nat.reduceDiv, Nat.reduceBEq, Nat.reduceEqDiff, Nat.reduceLeDiff, reduceCtorEq, ↓reduceIte, beq_dec, Int.reduceToNat, Int.reduceLT, Int.reduceLE, Int.reduceAdd, Int.reduceSub, Int.reduceMul, Int.reduceEq, Int.reduceNeg, Int.reduceNe, Int.toNat_natCast, IntKind.signed, IntKind.bits, Int.reducePow, Nat.reducePow] | (refine And.intro ?_ ?_; focus (first | (intros; omega) | (intros; simp_all; done))) | refine And.intro (?_ : CallAt _ _ _ _ _ _ _ _) ?_ | refine And.intro (?_ : CallAt _ _ _ _ _ _ _ _ ∧ _) ?_ | fail))
    refine AW_loopK [0, 1] [4, 5, 6, 7, 23, 24, 25, 26, 27, 28, 29, 30, 31, 32, 33, 34, 35, 36, 37, 38, 39, 40, 41, 42, 43, 44, 45, 46, 47, 48] (fun i : Nat => i ≤ l.length ∧ ∀ j, j < i → atR a (nth l j).key = (nth l j).bef) (fun i => [(6, .c (Row (kA a l i))), (7, .I i)]) (fun _ => []) (fun i => l.length - i) 0 ⟨by omega, by omega⟩ ?_ ?_
    · simp (disch := omega) only [go_sem, Nat.reduceLT, Nat.reduceAdd, Nat.reduceSub, Nat.reduceMul, Nat.reduceMod, Nat.reduceDiv, Nat.reduceBEq, Nat.reduceEqDiff, Nat.reduceLeDiff, reduceCtorEq, ↓reduceIte, beq_dec, Int.reduceToNat, Int.reduceLT, Int.reduceLE, Int.reduceAdd, Int.reduceSub, Int.reduceMul, Int.reduceEq, Int.reduceNeg, Int.reduceNe, Int.toNat_natCast, IntKind.signed, IntKind.bits, Int.reducePow, Nat.reducePow, Int.natCast_zero]
    · rintro i ⟨hi, hb⟩
      have g42 := f42 (nth l i)
      simp only [Chg.av, Chg.cd, List.map_cons, List.map_nil] at g42
      have hkl := kA_len a l i
      have g45 := fun n => f45 (kA a l i) n (by omega)
      have g36 := f36 a
      (repeat' (first | refine NextAt.mk (fun hc => ?_) (fun pre n v post hc hkey => ?_) | refine Sni.mk (fun hc => ?_) ?_ | refine AW_seq ?_ | refine AW_block ?_ | ((first | refine AW_reg ?_ | refine AW_cond ?_ | refine AW_skip ?_ | refine AW_exit ?_ | refine AW_ret ?_ | refine AW_regD (by kernel_rfl) ?_ | refine AW_regX (by kernel_rfl) ?_ | refine CallAtG.t (Eq.refl true) ?_ | refine CallAtG.f (Eq.refl false) ?_ | refine CallAt.mk _ (g42 ..) (by first | (intro h; cases h; done) | (intro _; repeat' (first | exact List.forall_mem_nil _ | trivial | refine List.forall_mem_cons.2 ⟨?_, ?_⟩)) | (intro _; simp [RV.flatP, CD.flatP, getD_map Chg.cd, Chg.cd, List.map_cons, List.map_nil]; done)) ?_ | refine CallAtG.mk _ (fun _ => g42 ..) ?_ | refine CallDS.mk _ (by simp [RV.data]) (fun _ => g42 ..) (by first | (intro h; cases h; done) | (intro _; repeat' (first | exact List.forall_mem_nil _ | trivial | refine List.forall_mem_cons.2 ⟨?_, ?_⟩)) | (intro _; simp [RV.flatP, CD.flatP, getD_map Chg.cd, Chg.cd, List.map_cons, List.map_nil]; done)) ?_ | refine CallAt.mk _ (g45 ..) (by first | (intro h; cases h; done) | (intro _; repeat' (first | exact List.forall_mem_nil _ | trivial | refine List.forall_mem_cons.2 ⟨?_, ?_⟩)) | (intro _; simp [RV.flatP, CD.flatP, getD_map Chg.cd, Chg.cd, List.map_cons, List.map_nil]; done)) ?_ | refine CallAtG.mk _ (fun _ => g45 ..) ?_ | refine CallDS.mk _ (by simp [RV.data]) (fun _ => g45 ..) (by first | (intro h; cases h; done) | (intro _; repeat' (first | exact List.forall_mem_nil _ | trivial | refine List.forall_mem_cons.2 ⟨?_, ?_⟩)) | (intro _; simp [RV.flatP, CD.flatP, getD_map Chg.cd, Chg.cd, List.map_cons, List.map_nil]; done)) ?_ | refine CallAt.mk _ (g36 ..) (by first | (intro h; cases h; done) | (intro _; repeat' (first | exact List.forall_mem_nil _ | trivial | refine List.forall_mem_cons.2 ⟨?_, ?_⟩)) | (intro _; simp [RV.flatP, CD.flatP, getD_map Chg.cd, Chg.cd, List.map_cons, List.map_nil]; done)) ?_ | refine CallAtG.mk _ (fun _ => g36 ..) ?_ | refine CallDS.mk _ (by simp [RV.data]) (fun _ => g36 ..) (by first | (intro h; cases h; done) | (intro _; repeat' (first | exact List.forall_mem_nil _ | trivial | refine List.forall_mem_cons.2 ⟨?_, ?_⟩)) | (intro _; simp [RV.flatP, CD.flatP, getD_map Chg.cd, Chg.cd, List.map_cons, List.map_nil]; done)) ?_); try simp (disch := omega) only [go_sem, Nat.reduceLT, Nat.reduceAdd, Nat.reduceSub, Nat.reduceMul, Nat.reduceMod, Nat.reduceDiv, Nat.reduceBEq, Nat.reduceEqDiff, Nat.reduceLeDiff, reduceCtorEq, ↓reduceIte, beq_dec, Int.reduceToNat, Int.reduceLT, Int.reduceLE, Int.reduceAdd, Int.reduceSub, Int.reduceMul, Int.reduceEq, Int.reduceNeg, Int.reduceNe, Int.toNat_natCast, IntKind.signed, IntKind.bits, Int.reducePow, Nat.reducePow, getD_map Chg.cd, Chg.cd, List.map_cons, List.map_nil]) | refine And.intro (fun hc => (?_ : AW _ _ _ _)) (fun hc => (?_ : AW _ _ _ _)) | simp (disch := omega) only [go_sem, Nat.reduceLT, Nat.reduceAdd, Nat.reduceSub, Nat.reduceMul, Nat.reduceMod, Nat.reduceDiv, Nat.reduceBEq, Nat.reduceEqDiff, Nat.reduceLeDiff, reduceCtorEq, ↓reduceIte, beq_dec, Int.reduceToNat, Int.reduceLT, Int.reduceLE, Int.reduceAdd, Int.reduceSub, Int.reduceMul, Int.reduceEq, Int.reduceNeg, Int.reduceNe, Int.toNat_natCast, IntKind.signed, IntKind.bits, Int.reducePow, Nat.reducePow, getD_map Chg.cd, Chg.cd, List.map_cons, List.map_nil] | (refine And.intro ?_ ?_; focus (first | (intros; omega) | (intros; simp_all; done))) | refine And.intro (?_ : CallAt _ _ _ _ _ _ _ _) ?_ | refine And.intro (?_ : CallAt _ _ _ _ _ _ _ _ ∧ _) ?_ | fail))
      · have hn : okA a l = false := by
          unfold okA
          rw [decide_eq_false_iff_not]
          intro h
          have hi' := h i (by omega)
          rw [sd_eq] at hi'
          rcases hc with hc | hc
          · exact hc hi'.1
          · rw [hi'.2] at hc; cases hc
        have he : appE a l = 10 := by rw [hE, hn]; rfl
        have hL : appL a l = [] := by unfold appL; rw [he]; rfl
        rw [hL, he]
        exact ⟨rfl, rfl⟩
      · rw [← sd_eq] at hc
        refine .mk (i + 1) ⟨by omega, step_lt hb hc⟩ (by omega) ?_
        rw [kA_succ a l i (by omega)]
        simp (disch := omega) only [go_sem, Nat.reduceLT, Nat.reduceAdd, Nat.reduceSub, Nat.reduceMul, Nat.reduceMod, Nat.reduceDiv, Nat.reduceBEq, Nat.reduceEqDiff, Nat.reduceLeDiff, reduceCtorEq, ↓reduceIte, beq_dec, Int.reduceToNat, Int.reduceLT, Int.reduceLE, Int.reduceAdd, Int.reduceSub, Int.reduceMul, Int.reduceEq, Int.reduceNeg, Int.reduceNe, Int.toNat_natCast, IntKind.signed, IntKind.bits, Int.reducePow, Nat.reducePow, Int.natCast_add, Int.natCast_one]
      · have hil : i = l.length := by omega
        have hok : okA a l = true := by
          unfold okA
          rw [decide_eq_true_eq]
          exact fun j hj => hb j (by omega)
        rw [hok, if_pos rfl] at hE
        have hKe : kA a l i = appK a l := by unfold kA appK; rw [hil, List.take_length]
        rw [hKe] at hkl ⊢
        have hOl := listR_len (appF a l) (appK a l)
        refine AW_nil 8 900 43 2 (by rfl) ?_
        refine AW_loopK [0, 1, 6] [8, 9, 10, 11, 49, 50, 51, 52, 53, 54, 55, 56, 57, 58, 59, 60, 61, 62, 63, 64, 65, 66, 67, 68, 69, 70, 71, 72, 73, 74, 75, 76, 77, 78, 79, 80] (fun k : Nat => k ≤ (appK a l).length) (fun k => [(8, .own 900), (9, .I k)]) (fun k => [(900, .arr 43 2 ((listR (appF a l) ((appK a l).take k)).map cdE))]) (fun k => (appK a l).length - k) 0 (by omega) ?_ ?_
        · simp (disch := omega) only [go_sem, Nat.reduceLT, Nat.reduceAdd, Nat.reduceSub, Nat.reduceMul, Nat.reduceMod, Nat.reduceDiv, Nat.reduceBEq, Nat.reduceEqDiff, Nat.reduceLeDiff, reduceCtorEq, ↓reduceIte, beq_dec, Int.reduceToNat, Int.reduceLT, Int.reduceLE, Int.reduceAdd, Int.reduceSub, Int.reduceMul, Int.reduceEq, Int.reduceNeg, Int.reduceNe, Int.toNat_natCast, IntKind.signed, IntKind.bits, Int.reducePow, Nat.reducePow, Int.natCast_zero, List.take_zero, listR, List.flatMap_nil, List.map_nil]
        · intro k hk
          have hkb := listR_len (appF a l) ((appK a l).take k)
          have hkb2 : ((appK a l).take k).length ≤ (appK a l).length := by simp; omega
          have g46 := f46 l (nth (appK a l) k)
          have g38 := fun k' s => f38 (listR (appF a l) ((appK a l).take k)) k' s (by omega)
          rcases findR_get l (nth (appK a l) k) with ⟨h1, h2, h3⟩ | ⟨h1, h2⟩
          · have hf : appF a l (nth (appK a l) k) = (nth l (findR l (nth (appK a l) k)).toNat).aft := by unfold appF; rw [h3]
            generalize findR l (nth (appK a l) k) = fr at *
            have g41 := f41 (nth l fr.toNat)
            simp only [Chg.av, Chg.cd, List.map_cons, List.map_nil] at g41
            (repeat' (first | (with_reducible refine t28 ?_; try simp (disch := omega) only [go_sem, Nat.reduceLT, Nat.reduceAdd, Nat.reduceSub, Nat.reduceMul, Nat.reduceMod, Nat.reduceDiv, Nat.reduceBEq, Nat.reduceEqDiff, Nat.reduceLeDiff, reduceCtorEq, ↓reduceIte, beq_dec, Int.reduceToNat, Int.reduceLT, Int.reduceLE, Int.reduceAdd, Int.reduceSub, Int.reduceMul, Int.reduceEq, Int.reduceNeg, Int.reduceNe, Int.toNat_natCast, IntKind.signed, IntKind.bits, Int.reducePow, Nat.reducePow, getD_map (fun x : Int => [CD.I x]), getD_map Chg.cd, Chg.cd, Sd.cd, List.map_cons, List.map_nil]) | refine NextAt.mk (fun hc => ?_) (fun pre n v post hc hkey => ?_) | refine Sni.mk (fun hc => ?_) ?_ | refine AW_seq ?_ | refine AW_block ?_ | ((first | refine AW_reg ?_ | refine AW_cond ?_ | refine AW_skip ?_ | refine AW_exit ?_ | refine AW_ret ?_ | refine AW_regD (by kernel_rfl) ?_ | refine AW_regX (by kernel_rfl) ?_ | refine CallAt.mkP (g38 ..) (by rfl) (by simp (disch := omega) only [go_sem, Nat.reduceLT, Nat.reduceAdd, Nat.reduceSub, Nat.reduceMul, Nat.reduceMod, Nat.reduceDiv, Nat.reduceBEq, Nat.reduceEqDiff, Nat.reduceLeDiff, reduceCtorEq, ↓reduceIte, beq_dec, Int.reduceToNat, Int.reduceLT, Int.reduceLE, Int.reduceAdd, Int.reduceSub, Int.reduceMul, Int.reduceEq, Int.reduceNeg, Int.reduceNe, Int.toNat_natCast, IntKind.signed, IntKind.bits, Int.reducePow, Nat.reducePow, getD_map (fun x : Int => [CD.I x]), getD_map Chg.cd, Chg.cd, Sd.cd, List.map_cons, List.map_nil]) (by rfl) (by rfl) (by first | (intro h; cases h; done) | (intro _; simp [RV.flatP, CD.flatP, flatOb, AO.flatP, getD_map (fun x : Int => [CD.I x]), getD_map Chg.cd, Chg.cd, Sd.cd, List.map_cons, List.map_nil]; done)) ?_ | refine CallAtG.t (Eq.refl true) ?_ | refine CallAtG.f (Eq.refl false) ?_ | refine CallAt.mk _ (g46 ..) (by first | (intro h; cases h; done) | (intro _; repeat' (first | exact List.forall_mem_nil _ | trivial | refine List.forall_mem_cons.2 ⟨?_, ?_⟩)) | (intro _; simp [RV.flatP, CD.flatP, getD_map (fun x : Int => [CD.I x]), getD_map Chg.cd, Chg.cd, Sd.cd, List.map_cons, List.map_nil]; done)) ?_ | refine CallAtG.mk _ (fun _ => g46 ..) ?_ | refine CallDS.mk _ (by simp [RV.data]) (fun _ => g46 ..) (by first | (intro h; cases h; done) | (intro _; repeat' (first | exact List.forall_mem_nil _ | trivial | refine List.forall_mem_cons.2 ⟨?_, ?_⟩)) | (intro _; simp [RV.flatP, CD.flatP, getD_map (fun x : Int => [CD.I x]), getD_map Chg.cd, Chg.cd, Sd.cd, List.map_cons, List.map_nil]; done)) ?_ | refine CallAt.mk _ (g36 ..) (by first | (intro h; cases h; done) | (intro _; repeat' (first | exact List.forall_mem_nil _ | trivial | refine List.forall_mem_cons.2 ⟨?_, ?_⟩)) | (intro _; simp [RV.flatP, CD.flatP, getD_map (fun x : Int => [CD.I x]), getD_map Chg.cd, Chg.cd, Sd.cd, List.map_cons, List.map_nil]; done)) ?_ | refine CallAtG.mk _ (fun _ => g36 ..) ?_ | refine CallDS.mk _ (by simp [RV.data]) (fun _ => g36 ..) (by first | (intro h; cases h; done) | (intro _; repeat' (first | exact List.forall_mem_nil _ | trivial | refine List.forall_mem_cons.2 ⟨?_, ?_⟩)) | (intro _; simp [RV.flatP, CD.flatP, getD_map (fun x : Int => [CD.I x]), getD_map Chg.cd, Chg.cd, Sd.cd, List.map_cons, List.map_nil]; done)) ?_ | refine CallAt.mk _ (g41 ..) (by first | (intro h; cases h; done) | (intro _; repeat' (first | exact List.forall_mem_nil _ | trivial | refine List.forall_mem_cons.2 ⟨?_, ?_⟩)) | (intro _; simp [RV.flatP, CD.flatP, getD_map (fun x : Int => [CD.I x]), getD_map Chg.cd, Chg.cd, Sd.cd, List.map_cons, List.map_nil]; done)) ?_ | refine CallAtG.mk _ (fun _ => g41 ..) ?_ | refine CallDS.mk _ (by simp [RV.data]) (fun _ => g41 ..) (by first | (intro h; cases h; done) | (intro _; repeat' (first | exact List.forall_mem_nil _ | trivial | refine List.forall_mem_cons.2 ⟨?_, ?_⟩)) | (intro _; simp [RV.flatP, CD.flatP, getD_map (fun x : Int => [CD.I x]), getD_map Chg.cd, Chg.cd, Sd.cd, List.map_cons, List.map_nil]; done)) ?_); try simp (disch := omega) only [go_sem, Nat.reduceLT, Nat.reduceAdd, Nat.reduceSub, Nat.reduceMul, Nat.reduceMod, Nat.reduceDiv, Nat.reduceBEq, Nat.reduceEqDiff, Nat.reduceLeDiff, reduceCtorEq, ↓reduceIte, beq_dec, Int.reduceToNat, Int.reduceLT, Int.reduceLE, Int.reduceAdd, Int.reduceSub, Int.reduceMul, Int.reduceEq, Int.reduceNeg, Int.reduceNe, Int.toNat_natCast, IntKind.signed, IntKind.bits, Int.reducePow, Nat.reducePow, getD_map (fun x : Int => [CD.I x]), getD_map Chg.cd, Chg.cd, Sd.cd, List.map_cons, List.map_nil]) | refine And.intro (fun hc => (?_ : AW _ _ _ _)) (fun hc => (?_ : AW _ _ _ _)) | simp (disch := omega) only [go_sem, Nat.reduceLT, Nat.reduceAdd, Nat.reduceSub, Nat.reduceMul, Nat.reduceMod, Nat.reduceDiv, Nat.reduceBEq, Nat.reduceEqDiff, Nat.reduceLeDiff, reduceCtorEq, ↓reduceIte, beq_dec, Int.reduceToNat, Int.reduceLT, Int.reduceLE, Int.reduceAdd, Int.reduceSub, Int.reduceMul, Int.reduceEq, Int.reduceNeg, Int.reduceNe, Int.toNat_natCast, IntKind.signed, IntKind.bits, Int.reducePow, Nat.reducePow, getD_map (fun x : Int => [CD.I x]), getD_map Chg.cd, Chg.cd, Sd.cd, List.map_cons, List.map_nil] | (refine And.intro ?_ ?_; focus (first | (intros; omega) | (intros; simp_all; done))) | refine And.intro (?_ : CallAt _ _ _ _ _ _ _ _) ?_ | refine And.intro (?_ : CallAt _ _ _ _ _ _ _ _ ∧ _) ?_ | fail))
            · refine .mk (k + 1) (by omega) (by omega) ?_
              rw [listR_succ _ _ k (by omega), hf]
              simp (disch := omega) only [go_sem, Nat.reduceLT, Nat.reduceAdd, Nat.reduceSub, Nat.reduceMul, Nat.reduceMod, Nat.reduceDiv, Nat.reduceBEq, Nat.reduceEqDiff, Nat.reduceLeDiff, reduceCtorEq, ↓reduceIte, beq_dec, Int.reduceToNat, Int.reduceLT, Int.reduceLE, Int.reduceAdd, Int.reduceSub, Int.reduceMul, Int.reduceEq, Int.reduceNeg, Int.reduceNe, Int.toNat_natCast, IntKind.signed, IntKind.bits, Int.reducePow, Nat.reducePow, Int.natCast_add, Int.natCast_one]
            · exfalso; omega
            · have hke : k = (appK a l).length := by omega
              rw [hke, List.take_length] at hc
              have he : appE a l = 6 := by rw [hE, if_pos (by unfold appO; omega)]
              have hL : appL a l = [] := by unfold appL; rw [he]; rfl
              rw [hL, he]
              exact ⟨rfl, rfl⟩
            · have hke : k = (appK a l).length := by omega
              rw [hke, List.take_length] at hc ⊢
              have he : appE a l = 0 := by rw [hE, if_neg (by unfold appO; omega)]
              have hL : appL a l = appO a l := by unfold appL; rw [he]; rfl
              rw [hL, he]
              exact ⟨rfl, rfl⟩
          · have hf : appF a l (nth (appK a l) k) = atR a (nth (appK a l) k) := by unfold appF; rw [h2]
            rw [h1] at g46
            (repeat' (first | (with_reducible refine t28 ?_; try simp (disch := omega) only [go_sem, Nat.reduceLT, Nat.reduceAdd, Nat.reduceSub, Nat.reduceMul, Nat.reduceMod, Nat.reduceDiv, Nat.reduceBEq, Nat.reduceEqDiff, Nat.reduceLeDiff, reduceCtorEq, ↓reduceIte, beq_dec, Int.reduceToNat, Int.reduceLT, Int.reduceLE, Int.reduceAdd, Int.reduceSub, Int.reduceMul, Int.reduceEq, Int.reduceNeg, Int.reduceNe, Int.toNat_natCast, IntKind.signed, IntKind.bits, Int.reducePow, Nat.reducePow, getD_map (fun x : Int => [CD.I x]), Sd.cd, List.map_cons, List.map_nil]) | refine NextAt.mk (fun hc => ?_) (fun pre n v post hc hkey => ?_) | refine Sni.mk (fun hc => ?_) ?_ | refine AW_seq ?_ | refine AW_block ?_ | ((first | refine AW_reg ?_ | refine AW_cond ?_ | refine AW_skip ?_ | refine AW_exit ?_ | refine AW_ret ?_ | refine AW_regD (by kernel_rfl) ?_ | refine AW_regX (by kernel_rfl) ?_ | refine CallAt.mkP (g38 ..) (by rfl) (by simp (disch := omega) only [go_sem, Nat.reduceLT, Nat.reduceAdd, Nat.reduceSub, Nat.reduceMul, Nat.reduceMod, Nat.reduceDiv, Nat.reduceBEq, Nat.reduceEqDiff, Nat.reduceLeDiff, reduceCtorEq, ↓reduceIte, beq_dec, Int.reduceToNat, Int.reduceLT, Int.reduceLE, Int.reduceAdd, Int.reduceSub, Int.reduceMul, Int.reduceEq, Int.reduceNeg, Int.reduceNe, Int.toNat_natCast, IntKind.signed, IntKind.bits, Int.reducePow, Nat.reducePow, getD_map (fun x : Int => [CD.I x]), Sd.cd, List.map_cons, List.map_nil]) (by rfl) (by rfl) (by first | (intro h; cases h; done) | (intro _; simp [RV.flatP, CD.flatP, flatOb, AO.flatP, getD_map (fun x : Int => [CD.I x]), Sd.cd, List.map_cons, List.map_nil]; done)) ?_ | refine CallAtG.t (Eq.refl true) ?_ | refine CallAtG.f (Eq.refl false) ?_ | refine CallAt.mk _ (g46 ..) (by first | (intro h; cases h; done) | (intro _; repeat' (first | exact List.forall_mem_nil _ | trivial | refine List.forall_mem_cons.2 ⟨?_, ?_⟩)) | (intro _; simp [RV.flatP, CD.flatP, getD_map (fun x : Int => [CD.I x]), Sd.cd, List.map_cons, List.map_nil]; done)) ?_ | refine CallAtG.mk _ (fun _ => g46 ..) ?_ | refine CallDS.mk _ (by simp [RV.data]) (fun _ => g46 ..) (by first | (intro h; cases h; done) | (intro _; repeat' (first | exact List.forall_mem_nil _ | trivial | refine List.forall_mem_cons.2 ⟨?_, ?_⟩)) | (intro _; simp [RV.flatP, CD.flatP, getD_map (fun x : Int => [CD.I x]), Sd.cd, List.map_cons, List.map_nil]; done)) ?_ | refine CallAt.mk _ (g36 ..) (by first | (intro h; cases h; done) | (intro _; repeat' (first | exact List.forall_mem_nil _ | trivial | refine List.forall_mem_cons.2 ⟨?_, ?_⟩)) | (intro _; simp [RV.flatP, CD.flatP, getD_map (fun x : Int => [CD.I x]), Sd.cd, List.map_cons, List.map_nil]; done)) ?_ | refine CallAtG.mk _ (fun _ => g36 ..) ?_ | refine CallDS.mk _ (by simp [RV.data]) (fun _ => g36 ..) (by first | (intro h; cases h; done) | (intro _; repeat' (first | exact List.forall_mem_nil _ | trivial | refine List.forall_mem_cons.2 ⟨?_, ?_⟩)) | (intro _; simp [RV.flatP, CD.flatP, getD_map (fun x : Int => [CD.I x]), Sd.cd, List.map_cons, List.map_nil]; done)) ?_); try simp (disch := omega) only [go_sem, Nat.reduceLT, Nat.reduceAdd, Nat.reduceSub, Nat.reduceMul, Nat.reduceMod, Nat.reduceDiv, Nat.reduceBEq, Nat.reduceEqDiff, Nat.reduceLeDiff, reduceCtorEq, ↓reduceIte, beq_dec, Int.reduceToNat, Int.reduceLT, Int.reduceLE, Int.reduceAdd, Int.reduceSub, Int.reduceMul, Int.reduceEq, Int.reduceNeg, Int.reduceNe, Int.toNat_natCast, IntKind.signed, IntKind.bits, Int.reducePow, Nat.reducePow, getD_map (fun x : Int => [CD.I x]), Sd.cd, List.map_cons, List.map_nil]) | refine And.intro (fun hc => (?_ : AW _ _ _ _)) (fun hc => (?_ : AW _ _ _ _)) | simp (disch := omega) only [go_sem, Nat.reduceLT, Nat.reduceAdd, Nat.reduceSub, Nat.reduceMul, Nat.reduceMod, Nat.reduceDiv, Nat.reduceBEq, Nat.reduceEqDiff, Nat.reduceLeDiff, reduceCtorEq, ↓reduceIte, beq_dec, Int.reduceToNat, Int.reduceLT, Int.reduceLE, Int.reduceAdd, Int.reduceSub, Int.reduceMul, Int.reduceEq, Int.reduceNeg, Int.reduceNe, Int.toNat_natCast, IntKind.signed, IntKind.bits, Int.reducePow, Nat.reducePow, getD_map (fun x : Int => [CD.I x]), Sd.cd, List.map_cons, List.map_nil] | (refine And.intro ?_ ?_; focus (first | (intros; omega) | (intros; simp_all; done))) | refine And.intro (?_ : CallAt _ _ _ _ _ _ _ _) ?_ | refine And.intro (?_ : CallAt _ _ _ _ _ _ _ _ ∧ _) ?_ | fail))
            · refine .mk (k + 1) (by omega) (by omega) ?_
              rw [listR_succ _ _ k (by omega), hf]
              simp (disch := omega) only [go_sem, Nat.reduceLT, Nat.reduceAdd, Nat.reduceSub, Nat.reduceMul, Nat.reduceMod, Nat.reduceDiv, Nat.reduceBEq, Nat.reduceEqDiff, Nat.reduceLeDiff, reduceCtorEq, ↓reduceIte, beq_dec, Int.reduceToNat, Int.reduceLT, Int.reduceLE, Int.reduceAdd, Int.reduceSub, Int.reduceMul, Int.reduceEq, Int.reduceNeg, Int.reduceNe, Int.toNat_natCast, IntKind.signed, IntKind.bits, Int.reducePow, Nat.reducePow, Int.natCast_add, Int.natCast_one]
            · have hke : k = (appK a l).length := by omega
              rw [hke, List.take_length] at hc
              have he : appE a l = 6 := by rw [hE, if_pos (by unfold appO; omega)]
              have hL : appL a l = [] := by unfold appL; rw [he]; rfl
              rw [hL, he]
              exact ⟨rfl, rfl⟩
            · have hke : k = (appK a l).length := by omega
              rw [hke, List.take_length] at hc ⊢
              have he : appE a l = 0 := by rw [hE, if_neg (by unfold appO; omega)]
              have hL : appL a l = appO a l := by unfold appL; rw [he]; rfl
              rw [hL, he]
              exact ⟨rfl, rfl⟩
  · have hE : appE a l = 1 := by
      unfold appE
      rw [if_neg]
      simpa using hv
    have hL : appL a l = [] := by unfold appL; rw [hE]; rfl
    rw [hE, hL]
    refine fn_walk code28 (by simp) ?_
    (repeat' (first | refine NextAt.mk (fun hc => ?_) (fun pre n v post hc hkey => ?_) | refine Sni.mk (fun hc => ?_) ?_ | refine AW_seq ?_ | refine AW_block ?_ | ((first | refine AW_reg ?_ | refine AW_cond ?_ | refine AW_skip ?_ | refine AW_exit ?_ | refine AW_ret ?_ | refine AW_regD (by kernel_rfl) ?_ | refine AW_regX (by kernel_rfl) ?_ | refine CallAtG.t (Eq.refl true) ?_ | refine CallAtG.f (Eq.refl false) ?_ | refine CallAt.mk _ (f24 ..) (by first | (intro h; cases h; done) | (intro _; repeat' (first | exact List.forall_mem_nil _ | trivial | refine List.forall_mem_cons.2 ⟨?_, ?_⟩)) | (intro _; simp [RV.flatP, CD.flatP]; done)) ?_ | refine CallAtG.mk _ (fun _ => f24 ..) ?_ | refine CallDS.mk _ (by simp [RV.data]) (fun _ => f24 ..) (by first | (intro h; cases h; done) | (intro _; repeat' (first | exact List.forall_mem_nil _ | trivial | refine List.forall_mem_cons.2 ⟨?_, ?_⟩)) | (intro _; simp [RV.flatP, CD.flatP]; done)) ?_ | refine CallAt.mk _ (f26 ..) (by first | (intro h; cases h; done) | (intro _; repeat' (first | exact List.forall_mem_nil _ | trivial | refine List.forall_mem_cons.2 ⟨?_, ?_⟩)) | (intro _; simp [RV.flatP, CD.flatP]; done)) ?_ | refine CallAtG.mk _ (fun _ => f26 ..) ?_ | refine CallDS.mk _ (by simp [RV.data]) (fun _ => f26 ..) (by first | (intro h; cases h; done) | (intro _; repeat' (first | exact List.forall_mem_nil _ | trivial | refine List.forall_mem_cons.2 ⟨?_, ?_⟩)) | (intro _; simp [RV.flatP, CD.flatP]; done)) ?_); try simp (disch := omega) only [go_sem, Nat.reduceLT, Nat.reduceAdd, Nat.reduceSub, Nat.reduceMul, Nat.reduceMod, Nat.reduceDiv, Nat.reduceBEq, Nat.reduceEqDiff, Nat.reduceLeDiff, reduceCtorEq, ↓reduceIte, beq_dec, Int.reduceToNat, Int.reduceLT, Int.reduceLE, Int.reduceAdd, Int.reduceSub, Int.reduceMul, Int.reduceEq, Int.reduceNeg, Int.reduceNe, Int.toNat_natCast, IntKind.signed, IntKind.bits, Int.reducePow, Nat.reducePow]) | refine And.intro (fun hc => (?_ : AW _ _ _ _)) (fun hc => (?_ : AW _ _ _ _)) | simp (disch := omega) only [go_sem, Nat.reduceLT, Nat.reduceAdd, Nat.reduceSub, Nat.reduceMul, Nat.reduceMod, Nat.reduceDiv, Nat.reduceBEq, Nat.reduceEqDiff, Nat.reduceLeDiff, reduceCtorEq, ↓reduceIte, beq_dec, Int.reduceToNat, Int.reduceLT, Int.reduceLE, Int.reduceAdd, Int.reduceSub, Int.reduceMul, Int.reduceEq, Int.reduceNeg, Int.reduceNe, Int.toNat_natCast, IntKind.signed, IntKind.bits, Int.reducePow, Nat.reducePow] | (refine And.intro ?_ ?_; focus (first | (intros; omega) | (intros; simp_all; done))) | refine And.intro (?_ : CallAt _ _ _ _ _ _ _ _) ?_ | refine And.intro (?_ : CallAt _ _ _ _ _ _ _ _ ∧ _) ?_ | fail))
    all_goals (exfalso; exact hv ⟨by simp_all, by simp_all⟩)
end Go.Proofs.Ytklkehlccjofoaa

