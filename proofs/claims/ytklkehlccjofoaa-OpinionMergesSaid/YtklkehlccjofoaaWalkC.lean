/-
  Lemmas for the proof: no statement of its own.
-/
import Derived.Test.YtklkehlccjofoaaWalkB
set_option linter.unusedVariables false
set_option linter.unusedSimpArgs false
-- P p_12.txt
open Go Go.AL Go.RowKit Go.Shelf
namespace Go.Proofs.Ytklkehlccjofoaa
set_option maxRecDepth 20000

def clash (x y z : Sd) : Bool := !(decide (y = z) || decide (z = x) || decide (y = x))
def pickS (x y z : Sd) : Sd := if y = z ∨ z = x then y else if y = x then z else x
def merT (f g h : Int → Sd) (ks : List Int) : Tab := ks.foldl (fun m k => setS m k (pickS (f k) (g k) (h k))) []
def confP (f g h : Int → Sd) (ks : List Int) : List Int := ks.filter fun k => clash (f k) (g k) (h k)
theorem merT_succ (f g h : Int → Sd) (ks : List Int) (i : Nat) (hi : i < ks.length) : merT f g h (ks.take (i + 1)) = setS (merT f g h (ks.take i)) (nth ks i) (pickS (f (nth ks i)) (g (nth ks i)) (h (nth ks i))) := by
  rw [List.take_succ_eq_append_getElem hi, nth_eq ks i hi]
  unfold merT
  rw [List.foldl_append]
  rfl
theorem confP_succ (f g h : Int → Sd) (ks : List Int) (i : Nat) (hi : i < ks.length) : confP f g h (ks.take (i + 1)) = confP f g h (ks.take i) ++ (if clash (f (nth ks i)) (g (nth ks i)) (h (nth ks i)) then [nth ks i] else []) := by
  rw [List.take_succ_eq_append_getElem hi, nth_eq ks i hi]
  unfold confP
  rw [List.filter_append]
  congr 1
  rw [List.filter_cons]
  rfl
theorem sd_ne (s t : Sd) : (¬ s = t) ↔ (¬ s.v = t.v ∨ (s.is == t.is) = false) := by
  rw [sd_eq, Classical.not_and_iff_not_or_not, Bool.not_eq_true]
theorem setS_len (m : Tab) (k : Int) (s : Sd) : (setS m k s).length ≤ m.length + 1 := by
  have := congrArg List.length (setS_keys k s m)
  rw [List.length_map] at this
  rw [this]
  split <;> simp
theorem merT_nd (f g h : Int → Sd) (ks : List Int) : ((merT f g h ks).map Prod.fst).Nodup ∧ (merT f g h ks).length ≤ ks.length := by
  have : ∀ n, n ≤ ks.length → ((merT f g h (ks.take n)).map Prod.fst).Nodup ∧ (merT f g h (ks.take n)).length ≤ n := by
    intro n
    induction n with
    | zero => intro _; simp [merT]
    | succ n ih =>
      intro hn
      have ⟨h1, h2⟩ := ih (by omega)
      rw [merT_succ f g h ks n (by omega)]
      refine ⟨setS_nd h1 _ _, ?_⟩
      have := setS_len (merT f g h (ks.take n)) (nth ks n) (pickS (f (nth ks n)) (g (nth ks n)) (h (nth ks n)))
      omega
  have h := this ks.length (Nat.le_refl _)
  rwa [List.take_length] at h
theorem confP_len (f g h : Int → Sd) (ks : List Int) : (confP f g h ks).length ≤ ks.length := List.length_filter_le _ _
theorem pick1 {x y z : Sd} (h : y = z) : pickS x y z = y ∧ clash x y z = false := by
  unfold pickS clash; rw [if_pos (.inl h)]; simp [h]
theorem pick2 {x y z : Sd} (h : z = x) : pickS x y z = y ∧ clash x y z = false := by
  unfold pickS clash; rw [if_pos (.inr h)]; simp [h]
theorem pick3 {x y z : Sd} (h1 : ¬ y = z) (h2 : ¬ z = x) (h : y = x) : pickS x y z = z ∧ clash x y z = false := by
  unfold pickS clash; rw [if_neg (by rintro (h' | h') <;> contradiction), if_pos h]; simp [h]
theorem pick4 {x y z : Sd} (h1 : ¬ y = z) (h2 : ¬ z = x) (h : ¬ y = x) : pickS x y z = x ∧ clash x y z = true := by
  unfold pickS clash; rw [if_neg (by rintro (h' | h') <;> contradiction), if_neg h]; simp [h1, h2, h]
def K3 (a b c : List (Int × Int)) : List Int := insAll (a.map Prod.fst ++ (b.map Prod.fst ++ c.map Prod.fst))
theorem K3_len (a b c : List (Int × Int)) : (K3 a b c).length ≤ a.length + b.length + c.length := by
  have := @insAll_nodup_len (a.map Prod.fst ++ (b.map Prod.fst ++ c.map Prod.fst))
  unfold K3
  rw [List.length_append, List.length_append, List.length_map, List.length_map, List.length_map] at this
  omega
def merM (a b c : List (Int × Int)) : Tab := merT (atR a) (atR b) (atR c) (K3 a b c)
def merO (a b c : List (Int × Int)) : List (Int × Int) := allS (merM a b c)
def confO (a b c : List (Int × Int)) : List Int := confP (atR a) (atR b) (atR c) (K3 a b c)
def merE (a b c : List (Int × Int)) : Int := if validE a && validE b && validE c then (if 64 < (merO a b c).length ∨ 64 < (confO a b c).length then 6 else 0) else 1
def merL (a b c : List (Int × Int)) : List (Int × Int) := if merE a b c ≠ 0 then [] else merO a b c
def confL (a b c : List (Int × Int)) : List Int := if merE a b c ≠ 0 then [] else confO a b c
theorem merE_bad {a b c : List (Int × Int)} (h : ¬ (validE a = true ∧ validE b = true ∧ validE c = true)) : merE a b c = 1 := by
  unfold merE
  rw [if_neg]
  simp only [Bool.and_eq_true]
  exact fun ⟨⟨h1, h2⟩, h3⟩ => h ⟨h1, h2, h3⟩
set_option maxHeartbeats 4000000 in
theorem f17 (a b c : List (Int × Int)) : FnR Try.prog 17 [.c (EL a), .c (EL b), .c (EL c)] [.own 43 2 ((merL a b c).map cdE), .own 3 1 ((confL a b c).map fun x => [CD.I x]), .c (.I (merE a b c))] := by
  by_cases hv : validE a = true ∧ validE b = true ∧ validE c = true
  · obtain ⟨ha, hb, hcv⟩ := hv
    have hal := validE_len ha
    have hbl := validE_len hb
    have hcl := validE_len hcv
    have ga := f31q 901 a ha
    have gb := f31q 902 b hb
    have gc := f31q 903 c hcv
    have hk3 := K3_len a b c
    have hkE : allK [sdM (tabS a), sdM (tabS b), sdM (tabS c)] = a.map Prod.fst ++ (b.map Prod.fst ++ c.map Prod.fst) := by
      unfold allK
      simp only [List.flatMap_cons, List.flatMap_nil, List.append_nil, sdM_keys, tabS_keys]
    have g32 : FnR Try.prog 32 [.c (.sl 1 [[MP (sdM (tabS a))], [MP (sdM (tabS b))], [MP (sdM (tabS c))]])] [.c (Row (K3 a b c))] := by
      have := f32 [sdM (tabS a), sdM (tabS b), sdM (tabS c)] (by rw [hkE]; simp; omega)
      rw [hkE] at this
      exact this
    have hE : merE a b c = if 64 < (merO a b c).length ∨ 64 < (confO a b c).length then 6 else 0 := by unfold merE; rw [if_pos (by simp [ha, hb, hcv])]
    have hKb : (K3 a b c).length ≤ 1000 := by omega
    refine fn_walk code17 (by simp) ?_
    (repeat' (first | refine NextAt.mk (fun hc => ?_) (fun pre n v post hc hkey => ?_) | refine Sni.mk (fun hc => ?_) ?_ | refine Both.mk ?_ ?_ | refine AW_seq ?_ | refine AW_block ?_ | ((first | refine AW_reg ?_ | refine AW_cond ?_ | refine AW_skip ?_ | refine AW_exit ?_ | refine AW_ret ?_ | refine AW_regD (by kernel_rfl) ?_ | refine AW_regX (by kernel_rfl) ?_ | refine CallAt.mkP (ga ..) (by rfl) (by simp (disch := omega) only [go_sem, Nat.reduceLT, Nat.reduceAdd, Nat.reduceSub, Nat.reduceMul, Nat.reduceMod, Nat.reduceDiv, Nat.reduceBEq, Nat.reduceEqDiff, Nat.reduceLeDiff, reduceCtorEq, ↓reduceIte, beq_dec, Int.reduceToNat, Int.reduceLT, Int.reduceLE, Int.reduceAdd, Int.reduceSub, Int.reduceMul, Int.reduceEq, Int.reduceNeg, Int.reduceNe, Int.toNat_natCast, IntKind.signed, IntKind.bits, Int.reducePow, Nat.reducePow, ha, hb, hcv]) (by rfl) (by rfl) (by first | (intro h; cases h; done) | (intro _; simp [RV.flatP, CD.flatP, flatOb, AO.flatP, ha, hb, hcv]; done)) ?_ | refine CallAt.mkP (gb ..) (by rfl) (by simp (disch := omega) only [go_sem, Nat.reduceLT, Nat.reduceAdd, Nat.reduceSub, Nat.reduceMul, Nat.reduceMod, Nat.reduceDiv, Nat.reduceBEq, Nat.reduceEqDiff, Nat.reduceLeDiff, reduceCtorEq, ↓reduceIte, beq_dec, Int.reduceToNat, Int.reduceLT, Int.reduceLE, Int.reduceAdd, Int.reduceSub, Int.reduceMul, Int.reduceEq, Int.reduceNeg, Int.reduceNe, Int.toNat_natCast, IntKind.signed, IntKind.bits, Int.reducePow, Nat.reducePow, ha, hb, hcv]) (by rfl) (by rfl) (by first | (intro h; cases h; done) | (intro _; simp [RV.flatP, CD.flatP, flatOb, AO.flatP, ha, hb, hcv]; done)) ?_ | refine CallAt.mkP (gc ..) (by rfl) (by simp (disch := omega) only [go_sem, Nat.reduceLT, Nat.reduceAdd, Nat.reduceSub, Nat.reduceMul, Nat.reduceMod, Nat.reduceDiv, Nat.reduceBEq, Nat.reduceEqDiff, Nat.reduceLeDiff, reduceCtorEq, ↓reduceIte, beq_dec, Int.reduceToNat, Int.reduceLT, Int.reduceLE, Int.reduceAdd, Int.reduceSub, Int.reduceMul, Int.reduceEq, Int.reduceNeg, Int.reduceNe, Int.toNat_natCast, IntKind.signed, IntKind.bits, Int.reducePow, Nat.reducePow, ha, hb, hcv]) (by rfl) (by rfl) (by first | (intro h; cases h; done) | (intro _; simp [RV.flatP, CD.flatP, flatOb, AO.flatP, ha, hb, hcv]; done)) ?_ | refine CallAtG.t (Eq.refl true) ?_ | refine CallAtG.f (Eq.refl false) ?_ | refine CallAt.mk _ (f20 ..) (by first | (intro h; cases h; done) | (intro _; repeat' (first | exact List.forall_mem_nil _ | trivial | refine List.forall_mem_cons.2 ⟨?_, ?_⟩)) | (intro _; simp [RV.flatP, CD.flatP, ha, hb, hcv]; done)) ?_ | refine CallAtG.mk _ (fun _ => f20 ..) ?_ | refine CallDS.mk _ (by simp [RV.data]) (fun _ => f20 ..) (by first | (intro h; cases h; done) | (intro _; repeat' (first | exact List.forall_mem_nil _ | trivial | refine List.forall_mem_cons.2 ⟨?_, ?_⟩)) | (intro _; simp [RV.flatP, CD.flatP, ha, hb, hcv]; done)) ?_); try simp (disch := omega) only [go_sem, Nat.reduceLT, Nat.reduceAdd, Nat.reduceSub, Nat.reduceMul, Nat.reduceMod, Nat.reduceDiv, Nat.reduceBEq, Nat.reduceEqDiff, Nat.reduceLeDiff, reduceCtorEq, ↓reduceIte, beq_dec, Int.reduceToNat, Int.reduceLT, Int.reduceLE, Int.reduceAdd, Int.reduceSub, Int.reduceMul, Int.reduceEq, Int.reduceNeg, Int.reduceNe, Int.toNat_natCast, IntKind.signed, IntKind.bits, Int.reducePow, Nat.reducePow, ha, hb, hcv]) | refine And.intro (fun hc => (?_ : AW _ _ _ _)) (fun hc => (?_ : AW _ _ _ _)) | simp (disch := omega) only [go_sem, Nat.reduceLT, Nat.reduceAdd, Nat.reduceSub, Nat.reduceMul, Nat.reduceMod, Nat.reduceDiv, Nat.reduceBEq, Nat.reduceEqDiff, Nat.reduceLeDiff, reduceCtorEq, ↓reduceIte, beq_dec, Int.reduceToNat, Int.reduceLT, Int.reduceLE, Int.reduceAdd, Int.reduceSub, Int.reduceMul, Int.reduceEq, Int.reduceNeg, Int.reduceNe, Int.toNat_natCast, IntKind.signed, IntKind.bits, Int.reducePow, Nat.reducePow, ha, hb, hcv] | (refine And.intro ?_ ?_; focus (first | (intros; omega) | (intros; simp_all; done))) | refine And.intro (?_ : CallAt _ _ _ _ _ _ _ _) ?_ | refine And.intro (?_ : CallAt _ _ _ _ _ _ _ _ ∧ _) ?_ | refine And.intro (?_ : AW _ _ _ _) ?_ | fail))
    refine CallAt.frz [40] ?_
    simp (disch := omega) only [go_sem, Nat.reduceLT, Nat.reduceAdd, Nat.reduceSub, Nat.reduceMul, Nat.reduceMod, Nat.reduceDiv, Nat.reduceBEq, Nat.reduceEqDiff, Nat.reduceLeDiff, reduceCtorEq, ↓reduceIte, beq_dec, Int.reduceToNat, Int.reduceLT, Int.reduceLE, Int.reduceAdd, Int.reduceSub, Int.reduceMul, Int.reduceEq, Int.reduceNeg, Int.reduceNe, Int.toNat_natCast, IntKind.signed, IntKind.bits, Int.reducePow, Nat.reducePow]
    refine CallAt.mk _ g32 (fun h => by cases h) ?_
    (repeat' (first | refine NextAt.mk (fun hc => ?_) (fun pre n v post hc hkey => ?_) | refine Sni.mk (fun hc => ?_) ?_ | refine Both.mk ?_ ?_ | refine AW_seq ?_ | refine AW_block ?_ | ((first | refine AW_reg ?_ | refine AW_cond ?_ | refine AW_skip ?_ | refine AW_exit ?_ | refine AW_ret ?_ | refine AW_regD (by kernel_rfl) ?_ | refine AW_regX (by kernel_rfl) ?_ | refine CallAtG.t (Eq.refl true) ?_ | refine CallAtG.f (Eq.refl false) ?_); try simp (disch := omega) only [go_sem, Nat.reduceLT, Nat.reduceAdd, Nat.reduceSub, Nat.reduceMul, Nat.reduceMod, Nat.reduceDiv, Nat.reduceBEq, Nat.reduceEqDiff, Nat.reduceLeDiff, reduceCtorEq, ↓reduceIte, beq_dec, Int.reduceToNat, Int.reduceLT, Int.reduceLE, Int.reduceAdd, Int.reduceSub, Int.reduceMul, Int.reduceEq, Int.reduceNeg, Int.reduceNe, Int.toNat_natCast, IntKind.signed, IntKind.bits, Int.reducePow, Nat.reducePow, maxLen]) | refine And.intro (fun hc => (?_ : AW _ _ _ _)) (fun hc => (?_ : AW _ _ _ _)) | simp (disch := omega) only [go_sem, Nat.reduceLT, Nat.reduceAdd, Nat.reduceSub, Nat.reduceMul, Nat.reduceMod, Nat.reduceDiv, Nat.reduceBEq, Nat.reduceEqDiff, Nat.reduceLeDiff, reduceCtorEq, ↓reduceIte, beq_dec, Int.reduceToNat, Int.reduceLT, Int.reduceLE, Int.reduceAdd, Int.reduceSub, Int.reduceMul, Int.reduceEq, Int.reduceNeg, Int.reduceNe, Int.toNat_natCast, IntKind.signed, IntKind.bits, Int.reducePow, Nat.reducePow, maxLen] | (refine And.intro ?_ ?_; focus (first | (intros; omega) | (intros; simp_all; done))) | refine And.intro (?_ : CallAt _ _ _ _ _ _ _ _) ?_ | refine And.intro (?_ : CallAt _ _ _ _ _ _ _ _ ∧ _) ?_ | refine And.intro (?_ : AW _ _ _ _) ?_ | fail))
    refine AW_nil 13 900 3 1 (by rfl) ?_
    refine AW_loopK [9, 10, 11, 12, 41, 42] [13, 15, 43, 44, 45, 46, 47, 48, 49, 50, 51, 52, 53, 54, 55, 56, 57, 58, 59, 60, 61, 62, 63, 64, 65, 66, 67, 68, 69, 70, 71, 72, 73, 74, 75, 76, 77, 78, 79, 80, 81, 82, 83, 84, 85, 86, 87, 88, 89] (fun i : Nat => i ≤ (K3 a b c).length) (fun i => [(13, .own 900), (43, .I i)]) (fun i => [(900, .arr 3 1 ((confP (atR a) (atR b) (atR c) ((K3 a b c).take i)).map fun x => [CD.I x])), (36, .map (.one .i64) (sdM (merT (atR a) (atR b) (atR c) ((K3 a b c).take i))))]) (fun i => (K3 a b c).length - i) 0 (by omega) ?_ ?_
    · simp (disch := omega) only [go_sem, Nat.reduceLT, Nat.reduceAdd, Nat.reduceSub, Nat.reduceMul, Nat.reduceMod, Nat.reduceDiv, Nat.reduceBEq, Nat.reduceEqDiff, Nat.reduceLeDiff, reduceCtorEq, ↓reduceIte, beq_dec, Int.reduceToNat, Int.reduceLT, Int.reduceLE, Int.reduceAdd, Int.reduceSub, Int.reduceMul, Int.reduceEq, Int.reduceNeg, Int.reduceNe, Int.toNat_natCast, IntKind.signed, IntKind.bits, Int.reducePow, Nat.reducePow, Int.natCast_zero, List.take_zero, confP, List.filter_nil, List.map_nil, merT, List.foldl_nil, sdM]
    · intro i hi
      have hb := confP_len (atR a) (atR b) (atR c) ((K3 a b c).take i)
      have hb2 : ((K3 a b c).take i).length ≤ (K3 a b c).length := by simp; omega
      (repeat' (first | refine NextAt.mk (fun hc => ?_) (fun pre n v post hc hkey => ?_) | refine Sni.mk (fun hc => ?_) ?_ | refine Both.mk ?_ ?_ | refine AW_seq ?_ | refine AW_block ?_ | ((first | refine AW_reg ?_ | refine AW_cond ?_ | refine AW_skip ?_ | refine AW_exit ?_ | refine AW_ret ?_ | refine AW_regD (by kernel_rfl) ?_ | refine AW_regX (by kernel_rfl) ?_ | refine CallAtG.t (Eq.refl true) ?_ | refine CallAtG.f (Eq.refl false) ?_); try simp (disch := omega) only [go_sem, Nat.reduceLT, Nat.reduceAdd, Nat.reduceSub, Nat.reduceMul, Nat.reduceMod, Nat.reduceDiv, Nat.reduceBEq, Nat.reduceEqDiff, Nat.reduceLeDiff, reduceCtorEq, ↓reduceIte, beq_dec, Int.reduceToNat, Int.reduceLT, Int.reduceLE, Int.reduceAdd, Int.reduceSub, Int.reduceMul, Int.reduceEq, Int.reduceNeg, Int.reduceNe, Int.toNat_natCast, IntKind.signed, IntKind.bits, Int.reducePow, Nat.reducePow, getD_map (fun x : Int => [CD.I x]), sdM_look, tabS_look, List.length_append, List.length_map, maxLen]) | refine And.intro (fun hc => (?_ : AW _ _ _ _)) (fun hc => (?_ : AW _ _ _ _)) | simp (disch := omega) only [go_sem, Nat.reduceLT, Nat.reduceAdd, Nat.reduceSub, Nat.reduceMul, Nat.reduceMod, Nat.reduceDiv, Nat.reduceBEq, Nat.reduceEqDiff, Nat.reduceLeDiff, reduceCtorEq, ↓reduceIte, beq_dec, Int.reduceToNat, Int.reduceLT, Int.reduceLE, Int.reduceAdd, Int.reduceSub, Int.reduceMul, Int.reduceEq, Int.reduceNeg, Int.reduceNe, Int.toNat_natCast, IntKind.signed, IntKind.bits, Int.reducePow, Nat.reducePow, getD_map (fun x : Int => [CD.I x]), sdM_look, tabS_look, List.length_append, List.length_map, maxLen] | (refine And.intro ?_ ?_; focus (first | (intros; omega) | (intros; simp_all; done))) | refine And.intro (?_ : CallAt _ _ _ _ _ _ _ _) ?_ | refine And.intro (?_ : CallAt _ _ _ _ _ _ _ _ ∧ _) ?_ | refine And.intro (?_ : AW _ _ _ _) ?_ | fail))
      all_goals (try simp only [← sd_eq, ← sd_ne] at *)
      all_goals try contradiction
      all_goals try (
        refine .mk (i + 1) (by omega) (by omega) ?_
        rw [merT_succ _ _ _ (K3 a b c) i (by omega), confP_succ _ _ _ (K3 a b c) i (by omega)]
        have e := sdM_set (nth (K3 a b c) i) (pickS (atR a (nth (K3 a b c) i)) (atR b (nth (K3 a b c) i)) (atR c (nth (K3 a b c) i))) (merT (atR a) (atR b) (atR c) ((K3 a b c).take i))
        rw [← e])
      · obtain ⟨p1, p2⟩ := @pick1 (atR a (nth (K3 a b c) i)) (atR b (nth (K3 a b c) i)) (atR c (nth (K3 a b c) i)) (by assumption)
        rw [p1, p2]
        simp (disch := omega) only [go_sem, Nat.reduceLT, Nat.reduceAdd, Nat.reduceSub, Nat.reduceMul, Nat.reduceMod, Nat.reduceDiv, Nat.reduceBEq, Nat.reduceEqDiff, Nat.reduceLeDiff, reduceCtorEq, ↓reduceIte, beq_dec, Int.reduceToNat, Int.reduceLT, Int.reduceLE, Int.reduceAdd, Int.reduceSub, Int.reduceMul, Int.reduceEq, Int.reduceNeg, Int.reduceNe, Int.toNat_natCast, IntKind.signed, IntKind.bits, Int.reducePow, Nat.reducePow, Int.natCast_add, Int.natCast_one, Sd.cd, List.append_nil, Bool.false_eq_true, if_false]
      · obtain ⟨p1, p2⟩ := @pick2 (atR a (nth (K3 a b c) i)) (atR b (nth (K3 a b c) i)) (atR c (nth (K3 a b c) i)) (by assumption)
        rw [p1, p2]
        simp (disch := omega) only [go_sem, Nat.reduceLT, Nat.reduceAdd, Nat.reduceSub, Nat.reduceMul, Nat.reduceMod, Nat.reduceDiv, Nat.reduceBEq, Nat.reduceEqDiff, Nat.reduceLeDiff, reduceCtorEq, ↓reduceIte, beq_dec, Int.reduceToNat, Int.reduceLT, Int.reduceLE, Int.reduceAdd, Int.reduceSub, Int.reduceMul, Int.reduceEq, Int.reduceNeg, Int.reduceNe, Int.toNat_natCast, IntKind.signed, IntKind.bits, Int.reducePow, Nat.reducePow, Int.natCast_add, Int.natCast_one, Sd.cd, List.append_nil, Bool.false_eq_true, if_false]
      · obtain ⟨p1, p2⟩ := @pick3 (atR a (nth (K3 a b c) i)) (atR b (nth (K3 a b c) i)) (atR c (nth (K3 a b c) i)) (by assumption) (by assumption) (by assumption)
        rw [p1, p2]
        simp (disch := omega) only [go_sem, Nat.reduceLT, Nat.reduceAdd, Nat.reduceSub, Nat.reduceMul, Nat.reduceMod, Nat.reduceDiv, Nat.reduceBEq, Nat.reduceEqDiff, Nat.reduceLeDiff, reduceCtorEq, ↓reduceIte, beq_dec, Int.reduceToNat, Int.reduceLT, Int.reduceLE, Int.reduceAdd, Int.reduceSub, Int.reduceMul, Int.reduceEq, Int.reduceNeg, Int.reduceNe, Int.toNat_natCast, IntKind.signed, IntKind.bits, Int.reducePow, Nat.reducePow, Int.natCast_add, Int.natCast_one, Sd.cd, List.append_nil, Bool.false_eq_true, if_false]
      · obtain ⟨p1, p2⟩ := @pick4 (atR a (nth (K3 a b c) i)) (atR b (nth (K3 a b c) i)) (atR c (nth (K3 a b c) i)) (by assumption) (by assumption) (by assumption)
        rw [p1, p2, if_pos rfl, List.map_append]
        simp (disch := omega) only [go_sem, Nat.reduceLT, Nat.reduceAdd, Nat.reduceSub, Nat.reduceMul, Nat.reduceMod, Nat.reduceDiv, Nat.reduceBEq, Nat.reduceEqDiff, Nat.reduceLeDiff, reduceCtorEq, ↓reduceIte, beq_dec, Int.reduceToNat, Int.reduceLT, Int.reduceLE, Int.reduceAdd, Int.reduceSub, Int.reduceMul, Int.reduceEq, Int.reduceNeg, Int.reduceNe, Int.toNat_natCast, IntKind.signed, IntKind.bits, Int.reducePow, Nat.reducePow, Int.natCast_add, Int.natCast_one, Sd.cd, List.map_cons, List.map_nil]
      · have hil : i = (K3 a b c).length := by omega
        rw [hil, List.take_length]
        obtain ⟨hnd, hml⟩ := merT_nd (atR a) (atR b) (atR c) (K3 a b c)
        have hcl := confP_len (atR a) (atR b) (atR c) (K3 a b c)
        have g37 := f37 (merM a b c) hnd (by unfold merM; omega)
        rw [show merT (atR a) (atR b) (atR c) (K3 a b c) = merM a b c from rfl, show confP (atR a) (atR b) (atR c) (K3 a b c) = confO a b c from rfl]
        refine CallAt.frz [36] ?_
        simp (disch := omega) only [go_sem, Nat.reduceLT, Nat.reduceAdd, Nat.reduceSub, Nat.reduceMul, Nat.reduceMod, Nat.reduceDiv, Nat.reduceBEq, Nat.reduceEqDiff, Nat.reduceLeDiff, reduceCtorEq, ↓reduceIte, beq_dec, Int.reduceToNat, Int.reduceLT, Int.reduceLE, Int.reduceAdd, Int.reduceSub, Int.reduceMul, Int.reduceEq, Int.reduceNeg, Int.reduceNe, Int.toNat_natCast, IntKind.signed, IntKind.bits, Int.reducePow, Nat.reducePow]
        refine CallAt.mk _ g37 (fun h => by cases h) ?_
        rw [show allS (merM a b c) = merO a b c from rfl]
        (repeat' (first | refine NextAt.mk (fun hc => ?_) (fun pre n v post hc hkey => ?_) | refine Sni.mk (fun hc => ?_) ?_ | refine Both.mk ?_ ?_ | refine AW_seq ?_ | refine AW_block ?_ | ((first | refine AW_reg ?_ | refine AW_cond ?_ | refine AW_skip ?_ | refine AW_exit ?_ | refine AW_ret ?_ | refine AW_regD (by kernel_rfl) ?_ | refine AW_regX (by kernel_rfl) ?_ | refine CallAtG.t (Eq.refl true) ?_ | refine CallAtG.f (Eq.refl false) ?_); try simp (disch := omega) only [go_sem, Nat.reduceLT, Nat.reduceAdd, Nat.reduceSub, Nat.reduceMul, Nat.reduceMod, Nat.reduceDiv, Nat.reduceBEq, Nat.reduceEqDiff, Nat.reduceLeDiff, reduceCtorEq, ↓reduceIte, beq_dec, Int.reduceToNat, Int.reduceLT, Int.reduceLE, Int.reduceAdd, Int.reduceSub, Int.reduceMul, Int.reduceEq, Int.reduceNeg, Int.reduceNe, Int.toNat_natCast, IntKind.signed, IntKind.bits, Int.reducePow, Nat.reducePow, List.length_map]) | refine And.intro (fun hc => (?_ : AW _ _ _ _)) (fun hc => (?_ : AW _ _ _ _)) | simp (disch := omega) only [go_sem, Nat.reduceLT, Nat.reduceAdd, Nat.reduceSub, Nat.reduceMul, Nat.reduceMod, Nat.reduceDiv, Nat.reduceBEq, Nat.reduceEqDiff, Nat.reduceLeDiff, reduceCtorEq, ↓reduceIte, beq_dec, Int.reduceToNat, Int.reduceLT, Int.reduceLE, Int.reduceAdd, Int.reduceSub, Int.reduceMul, Int.reduceEq, Int.reduceNeg, Int.reduceNe, Int.toNat_natCast, IntKind.signed, IntKind.bits, Int.reducePow, Nat.reducePow, List.length_map] | (refine And.intro ?_ ?_; focus (first | (intros; omega) | (intros; simp_all; done))) | refine And.intro (?_ : CallAt _ _ _ _ _ _ _ _) ?_ | refine And.intro (?_ : CallAt _ _ _ _ _ _ _ _ ∧ _) ?_ | refine And.intro (?_ : AW _ _ _ _) ?_ | fail))
        · have he : merE a b c = 6 := by rw [hE, if_pos (by omega)]
          have hL : merL a b c = [] := by unfold merL; rw [he]; rfl
          have hC : confL a b c = [] := by unfold confL; rw [he]; rfl
          rw [he, hL, hC]
          exact ⟨rfl, rfl, rfl⟩
        · have he : merE a b c = 0 := by rw [hE, if_neg (by omega)]
          have hL : merL a b c = merO a b c := by unfold merL; rw [he]; rfl
          have hC : confL a b c = confO a b c := by unfold confL; rw [he]; rfl
          rw [he, hL, hC]
          exact ⟨rfl, rfl, rfl⟩
  · have hE := merE_bad hv
    have hL : merL a b c = [] := by unfold merL; rw [hE]; rfl
    have hL2 : confL a b c = [] := by unfold confL; rw [hE]; rfl
    rw [hE, hL, hL2]
    refine fn_walk code17 (by simp) ?_
    (repeat' (first | refine NextAt.mk (fun hc => ?_) (fun pre n v post hc hkey => ?_) | refine Sni.mk (fun hc => ?_) ?_ | refine Both.mk ?_ ?_ | refine AW_seq ?_ | refine AW_block ?_ | ((first | refine AW_reg ?_ | refine AW_cond ?_ | refine AW_skip ?_ | refine AW_exit ?_ | refine AW_ret ?_ | refine AW_regD (by kernel_rfl) ?_ | refine AW_regX (by kernel_rfl) ?_ | refine CallAtG.t (Eq.refl true) ?_ | refine CallAtG.f (Eq.refl false) ?_ | refine CallAt.mk _ (f20 ..) (by first | (intro h; cases h; done) | (intro _; repeat' (first | exact List.forall_mem_nil _ | trivial | refine List.forall_mem_cons.2 ⟨?_, ?_⟩)) | (intro _; simp [RV.flatP, CD.flatP]; done)) ?_ | refine CallAtG.mk _ (fun _ => f20 ..) ?_ | refine CallDS.mk _ (by simp [RV.data]) (fun _ => f20 ..) (by first | (intro h; cases h; done) | (intro _; repeat' (first | exact List.forall_mem_nil _ | trivial | refine List.forall_mem_cons.2 ⟨?_, ?_⟩)) | (intro _; simp [RV.flatP, CD.flatP]; done)) ?_); try simp (disch := omega) only [go_sem, Nat.reduceLT, Nat.reduceAdd, Nat.reduceSub, Nat.reduceMul, Nat.reduceMod, Nat.reduceDiv, Nat.reduceBEq, Nat.reduceEqDiff, Nat.reduceLeDiff, reduceCtorEq, ↓reduceIte, beq_dec, Int.reduceToNat, Int.reduceLT, Int.reduceLE, Int.reduceAdd, Int.reduceSub, Int.reduceMul, Int.reduceEq, Int.reduceNeg, Int.reduceNe, Int.toNat_natCast, IntKind.signed, IntKind.bits, Int.reducePow, Nat.reducePow]) | refine And.intro (fun hc => (?_ : AW _ _ _ _)) (fun hc => (?_ : AW _ _ _ _)) | simp (disch := omega) only [go_sem, Nat.reduceLT, Nat.reduceAdd, Nat.reduceSub, Nat.reduceMul, Nat.reduceMod, Nat.reduceDiv, Nat.reduceBEq, Nat.reduceEqDiff, Nat.reduceLeDiff, reduceCtorEq, ↓reduceIte, beq_dec, Int.reduceToNat, Int.reduceLT, Int.reduceLE, Int.reduceAdd, Int.reduceSub, Int.reduceMul, Int.reduceEq, Int.reduceNeg, Int.reduceNe, Int.toNat_natCast, IntKind.signed, IntKind.bits, Int.reducePow, Nat.reducePow] | (refine And.intro ?_ ?_; focus (first | (intros; omega) | (intros; simp_all; done))) | refine And.intro (?_ : CallAt _ _ _ _ _ _ _ _) ?_ | refine And.intro (?_ : CallAt _ _ _ _ _ _ _ _ ∧ _) ?_ | refine And.intro (?_ : AW _ _ _ _) ?_ | fail))
    all_goals (exfalso; exact hv ⟨by simp_all, by simp_all, by simp_all⟩)
end Go.Proofs.Ytklkehlccjofoaa

-- P p_12.txt
open Go Go.AL Go.RowKit Go.Shelf
namespace Go.Proofs.Ytklkehlccjofoaa
set_option maxRecDepth 20000
theorem f11 : FnR Try.prog 11 [] [.c (.B true)] := by
  have g13 := f13 [(1, 10), (2, 20)] [(2, 21), (3, 30)]
  have g17 := f17 [(1, 10), (2, 20)] [(1, 11), (2, 20)] [(1, 12), (2, 22)]
  have g16 := f16 [(1, 10), (2, 22)] [(1, 10), (2, 22)]
  have g19 := f19 [1] [1]
  have e1 : diffE [(1, 10), (2, 20)] [(2, 21), (3, 30)] = 0 := by decide +kernel
  have e2 : diffL [(1, 10), (2, 20)] [(2, 21), (3, 30)] = [⟨1, 10, 0, true, false⟩, ⟨2, 20, 21, true, true⟩, ⟨3, 0, 30, false, true⟩] := by decide +kernel
  have e3 : merE [(1, 10), (2, 20)] [(1, 11), (2, 20)] [(1, 12), (2, 22)] = 0 := by decide +kernel
  have e4 : merL [(1, 10), (2, 20)] [(1, 11), (2, 20)] [(1, 12), (2, 22)] = [(1, 10), (2, 22)] := by decide +kernel
  have e5 : confL [(1, 10), (2, 20)] [(1, 11), (2, 20)] [(1, 12), (2, 22)] = [1] := by decide +kernel
  rw [e1, e2] at g13
  rw [e3, e4, e5] at g17
  simp only [List.map_cons, List.map_nil, cdE, Chg.cd] at g13 g16 g17 g19
  refine fn_walk code11 (by simp) ?_
  (repeat' (first | refine NextAt.mk (fun hc => ?_) (fun pre n v post hc hkey => ?_) | refine Sni.mk (fun hc => ?_) ?_ | refine Both.mk ?_ ?_ | refine AW_seq ?_ | refine AW_block ?_ | ((first | refine AW_reg ?_ | refine AW_cond ?_ | refine AW_skip ?_ | refine AW_exit ?_ | refine AW_ret ?_ | refine AW_regD (by kernel_rfl) ?_ | refine AW_regX (by kernel_rfl) ?_ | refine CallAtG.t (Eq.refl true) ?_ | refine CallAtG.f (Eq.refl false) ?_ | refine CallAt.mk _ (g13 ..) (by first | (intro h; cases h; done) | (intro _; repeat' (first | exact List.forall_mem_nil _ | trivial | refine List.forall_mem_cons.2 ⟨?_, ?_⟩)) | (intro _; simp [RV.flatP, CD.flatP]; done)) ?_ | refine CallAtG.mk _ (fun _ => g13 ..) ?_ | refine CallDS.mk _ (by simp [RV.data]) (fun _ => g13 ..) (by first | (intro h; cases h; done) | (intro _; repeat' (first | exact List.forall_mem_nil _ | trivial | refine List.forall_mem_cons.2 ⟨?_, ?_⟩)) | (intro _; simp [RV.flatP, CD.flatP]; done)) ?_ | refine CallAt.mk _ (g17 ..) (by first | (intro h; cases h; done) | (intro _; repeat' (first | exact List.forall_mem_nil _ | trivial | refine List.forall_mem_cons.2 ⟨?_, ?_⟩)) | (intro _; simp [RV.flatP, CD.flatP]; done)) ?_ | refine CallAtG.mk _ (fun _ => g17 ..) ?_ | refine CallDS.mk _ (by simp [RV.data]) (fun _ => g17 ..) (by first | (intro h; cases h; done) | (intro _; repeat' (first | exact List.forall_mem_nil _ | trivial | refine List.forall_mem_cons.2 ⟨?_, ?_⟩)) | (intro _; simp [RV.flatP, CD.flatP]; done)) ?_ | refine CallAt.mk _ (g16 ..) (by first | (intro h; cases h; done) | (intro _; repeat' (first | exact List.forall_mem_nil _ | trivial | refine List.forall_mem_cons.2 ⟨?_, ?_⟩)) | (intro _; simp [RV.flatP, CD.flatP]; done)) ?_ | refine CallAtG.mk _ (fun _ => g16 ..) ?_ | refine CallDS.mk _ (by simp [RV.data]) (fun _ => g16 ..) (by first | (intro h; cases h; done) | (intro _; repeat' (first | exact List.forall_mem_nil _ | trivial | refine List.forall_mem_cons.2 ⟨?_, ?_⟩)) | (intro _; simp [RV.flatP, CD.flatP]; done)) ?_ | refine CallAt.mk _ (g19 ..) (by first | (intro h; cases h; done) | (intro _; repeat' (first | exact List.forall_mem_nil _ | trivial | refine List.forall_mem_cons.2 ⟨?_, ?_⟩)) | (intro _; simp [RV.flatP, CD.flatP]; done)) ?_ | refine CallAtG.mk _ (fun _ => g19 ..) ?_ | refine CallDS.mk _ (by simp [RV.data]) (fun _ => g19 ..) (by first | (intro h; cases h; done) | (intro _; repeat' (first | exact List.forall_mem_nil _ | trivial | refine List.forall_mem_cons.2 ⟨?_, ?_⟩)) | (intro _; simp [RV.flatP, CD.flatP]; done)) ?_); try simp (disch := omega) only [go_sem, Nat.reduceLT, Nat.reduceAdd, Nat.reduceSub, Nat.reduceMul, Nat.reduceMod, Nat.reduceDiv, Nat.reduceBEq, Nat.reduceEqDiff, Nat.reduceLeDiff, reduceCtorEq, ↓reduceIte, beq_dec, Int.reduceToNat, Int.reduceLT, Int.reduceLE, Int.reduceAdd, Int.reduceSub, Int.reduceMul, Int.reduceEq, Int.reduceNeg, Int.reduceNe, Int.toNat_natCast, IntKind.signed, IntKind.bits, Int.reducePow, Nat.reducePow]) | refine And.intro (fun hc => (?_ : AW _ _ _ _)) (fun hc => (?_ : AW _ _ _ _)) | simp (disch := omega) only [go_sem, Nat.reduceLT, Nat.reduceAdd, Nat.reduceSub, Nat.reduceMul, Nat.reduceMod, Nat.reduceDiv, Nat.reduceBEq, Nat.reduceEqDiff, Nat.reduceLeDiff, reduceCtorEq, ↓reduceIte, beq_dec, Int.reduceToNat, Int.reduceLT, Int.reduceLE, Int.reduceAdd, Int.reduceSub, Int.reduceMul, Int.reduceEq, Int.reduceNeg, Int.reduceNe, Int.toNat_natCast, IntKind.signed, IntKind.bits, Int.reducePow, Nat.reducePow] | (refine And.intro ?_ ?_; focus (first | (intros; omega) | (intros; simp_all; done))) | refine And.intro (?_ : CallAt _ _ _ _ _ _ _ _) ?_ | refine And.intro (?_ : CallAt _ _ _ _ _ _ _ _ ∧ _) ?_ | refine And.intro (?_ : AW _ _ _ _) ?_ | fail))
  all_goals rfl
theorem f15s (a : List Chg) : FnR Try.prog 15 [.c (CL a), .c (CL a)] [.c (.B true)] := by
  have := f15 a a
  rwa [show decide (a = a) = true by simp] at this
theorem f16s (a : List (Int × Int)) : FnR Try.prog 16 [.c (EL a), .c (EL a)] [.c (.B true)] := by
  have := f16 a a
  rwa [show decide (a = a) = true by simp] at this
theorem f19s (a : List Int) : FnR Try.prog 19 [.c (Row a), .c (Row a)] [.c (.B true)] := by
  have := f19 a a
  rwa [show decide (a = a) = true by simp] at this
theorem f3 (a b : List (Int × Int)) : FnR Try.prog 3 [.c (EL a), .c (EL b)] [.c (.B true)] := by
  refine fn_walk code3 (by simp) ?_
  (repeat' (first | refine NextAt.mk (fun hc => ?_) (fun pre n v post hc hkey => ?_) | refine Sni.mk (fun hc => ?_) ?_ | refine Both.mk ?_ ?_ | refine AW_seq ?_ | refine AW_block ?_ | ((first | refine AW_reg ?_ | refine AW_cond ?_ | refine AW_skip ?_ | refine AW_exit ?_ | refine AW_ret ?_ | refine AW_regD (by kernel_rfl) ?_ | refine AW_regX (by kernel_rfl) ?_ | refine CallAtG.t (Eq.refl true) ?_ | refine CallAtG.f (Eq.refl false) ?_ | refine CallAt.mk _ (f11 ..) (by first | (intro h; cases h; done) | (intro _; repeat' (first | exact List.forall_mem_nil _ | trivial | refine List.forall_mem_cons.2 ⟨?_, ?_⟩)) | (intro _; simp [RV.flatP, CD.flatP, maxLen]; done)) ?_ | refine CallAtG.mk _ (fun _ => f11 ..) ?_ | refine CallDS.mk _ (by simp [RV.data]) (fun _ => f11 ..) (by first | (intro h; cases h; done) | (intro _; repeat' (first | exact List.forall_mem_nil _ | trivial | refine List.forall_mem_cons.2 ⟨?_, ?_⟩)) | (intro _; simp [RV.flatP, CD.flatP, maxLen]; done)) ?_ | refine CallAt.mk _ (f12 ..) (by first | (intro h; cases h; done) | (intro _; repeat' (first | exact List.forall_mem_nil _ | trivial | refine List.forall_mem_cons.2 ⟨?_, ?_⟩)) | (intro _; simp [RV.flatP, CD.flatP, maxLen]; done)) ?_ | refine CallAtG.mk _ (fun _ => f12 ..) ?_ | refine CallDS.mk _ (by simp [RV.data]) (fun _ => f12 ..) (by first | (intro h; cases h; done) | (intro _; repeat' (first | exact List.forall_mem_nil _ | trivial | refine List.forall_mem_cons.2 ⟨?_, ?_⟩)) | (intro _; simp [RV.flatP, CD.flatP, maxLen]; done)) ?_); try simp (disch := omega) only [go_sem, Nat.reduceLT, Nat.reduceAdd, Nat.reduceSub, Nat.reduceMul, Nat.reduceMod, Nat.reduceDiv, Nat.reduceBEq, Nat.reduceEqDiff, Nat.reduceLeDiff, reduceCtorEq, ↓reduceIte, beq_dec, Int.reduceToNat, Int.reduceLT, Int.reduceLE, Int.reduceAdd, Int.reduceSub, Int.reduceMul, Int.reduceEq, Int.reduceNeg, Int.reduceNe, Int.toNat_natCast, IntKind.signed, IntKind.bits, Int.reducePow, Nat.reducePow, maxLen]) | refine And.intro (fun hc => (?_ : AW _ _ _ _)) (fun hc => (?_ : AW _ _ _ _)) | simp (disch := omega) only [go_sem, Nat.reduceLT, Nat.reduceAdd, Nat.reduceSub, Nat.reduceMul, Nat.reduceMod, Nat.reduceDiv, Nat.reduceBEq, Nat.reduceEqDiff, Nat.reduceLeDiff, reduceCtorEq, ↓reduceIte, beq_dec, Int.reduceToNat, Int.reduceLT, Int.reduceLE, Int.reduceAdd, Int.reduceSub, Int.reduceMul, Int.reduceEq, Int.reduceNeg, Int.reduceNe, Int.toNat_natCast, IntKind.signed, IntKind.bits, Int.reducePow, Nat.reducePow, maxLen] | (refine And.intro ?_ ?_; focus (first | (intros; omega) | (intros; simp_all; done))) | refine And.intro (?_ : CallAt _ _ _ _ _ _ _ _) ?_ | refine And.intro (?_ : CallAt _ _ _ _ _ _ _ _ ∧ _) ?_ | refine And.intro (?_ : AW _ _ _ _) ?_ | fail))
  have hal : a.length ≤ 100 := hc.1
  have hbl : b.length ≤ 100 := hc.2
  refine CallAt.frz [24, 27] ?_
  simp (disch := omega) only [go_sem, Nat.reduceLT, Nat.reduceAdd, Nat.reduceSub, Nat.reduceMul, Nat.reduceMod, Nat.reduceDiv, Nat.reduceBEq, Nat.reduceEqDiff, Nat.reduceLeDiff, reduceCtorEq, ↓reduceIte, beq_dec, Int.reduceToNat, Int.reduceLT, Int.reduceLE, Int.reduceAdd, Int.reduceSub, Int.reduceMul, Int.reduceEq, Int.reduceNeg, Int.reduceNe, Int.toNat_natCast, IntKind.signed, IntKind.bits, Int.reducePow, Nat.reducePow]
  refine CallAt.mk _ (f13 a b) (fun h => by cases h) ?_
  have g14 := f14 a b
  (repeat' (first | refine NextAt.mk (fun hc => ?_) (fun pre n v post hc hkey => ?_) | refine Sni.mk (fun hc => ?_) ?_ | refine Both.mk ?_ ?_ | refine AW_seq ?_ | refine AW_block ?_ | ((first | refine AW_reg ?_ | refine AW_cond ?_ | refine AW_skip ?_ | refine AW_exit ?_ | refine AW_ret ?_ | refine AW_regD (by kernel_rfl) ?_ | refine AW_regX (by kernel_rfl) ?_ | refine CallAtG.t (Eq.refl true) ?_ | refine CallAtG.f (Eq.refl false) ?_ | refine CallAt.mk _ (g14 ..) (by first | (intro h; cases h; done) | (intro _; repeat' (first | exact List.forall_mem_nil _ | trivial | refine List.forall_mem_cons.2 ⟨?_, ?_⟩)) | (intro _; simp [RV.flatP, CD.flatP, maxLen]; done)) ?_ | refine CallAtG.mk _ (fun _ => g14 ..) ?_ | refine CallDS.mk _ (by simp [RV.data]) (fun _ => g14 ..) (by first | (intro h; cases h; done) | (intro _; repeat' (first | exact List.forall_mem_nil _ | trivial | refine List.forall_mem_cons.2 ⟨?_, ?_⟩)) | (intro _; simp [RV.flatP, CD.flatP, maxLen]; done)) ?_); try simp (disch := omega) only [go_sem, Nat.reduceLT, Nat.reduceAdd, Nat.reduceSub, Nat.reduceMul, Nat.reduceMod, Nat.reduceDiv, Nat.reduceBEq, Nat.reduceEqDiff, Nat.reduceLeDiff, reduceCtorEq, ↓reduceIte, beq_dec, Int.reduceToNat, Int.reduceLT, Int.reduceLE, Int.reduceAdd, Int.reduceSub, Int.reduceMul, Int.reduceEq, Int.reduceNeg, Int.reduceNe, Int.toNat_natCast, IntKind.signed, IntKind.bits, Int.reducePow, Nat.reducePow, maxLen]) | refine And.intro (fun hc => (?_ : AW _ _ _ _)) (fun hc => (?_ : AW _ _ _ _)) | simp (disch := omega) only [go_sem, Nat.reduceLT, Nat.reduceAdd, Nat.reduceSub, Nat.reduceMul, Nat.reduceMod, Nat.reduceDiv, Nat.reduceBEq, Nat.reduceEqDiff, Nat.reduceLeDiff, reduceCtorEq, ↓reduceIte, beq_dec, Int.reduceToNat, Int.reduceLT, Int.reduceLE, Int.reduceAdd, Int.reduceSub, Int.reduceMul, Int.reduceEq, Int.reduceNeg, Int.reduceNe, Int.toNat_natCast, IntKind.signed, IntKind.bits, Int.reducePow, Nat.reducePow, maxLen] | (refine And.intro ?_ ?_; focus (first | (intros; omega) | (intros; simp_all; done))) | refine And.intro (?_ : CallAt _ _ _ _ _ _ _ _) ?_ | refine And.intro (?_ : CallAt _ _ _ _ _ _ _ _ ∧ _) ?_ | refine And.intro (?_ : AW _ _ _ _) ?_ | fail))
  refine CallAt.frz [33, 39] ?_
  simp (disch := omega) only [go_sem, Nat.reduceLT, Nat.reduceAdd, Nat.reduceSub, Nat.reduceMul, Nat.reduceMod, Nat.reduceDiv, Nat.reduceBEq, Nat.reduceEqDiff, Nat.reduceLeDiff, reduceCtorEq, ↓reduceIte, beq_dec, Int.reduceToNat, Int.reduceLT, Int.reduceLE, Int.reduceAdd, Int.reduceSub, Int.reduceMul, Int.reduceEq, Int.reduceNeg, Int.reduceNe, Int.toNat_natCast, IntKind.signed, IntKind.bits, Int.reducePow, Nat.reducePow]
  refine CallAt.mk _ (f15s (diffL a b)) (fun h => by cases h) ?_
  have ga := f16s a
  have gb := f16s b
  (repeat' (first | refine NextAt.mk (fun hc => ?_) (fun pre n v post hc hkey => ?_) | refine Sni.mk (fun hc => ?_) ?_ | refine Both.mk ?_ ?_ | refine AW_seq ?_ | refine AW_block ?_ | ((first | refine AW_reg ?_ | refine AW_cond ?_ | refine AW_skip ?_ | refine AW_exit ?_ | refine AW_ret ?_ | refine AW_regD (by kernel_rfl) ?_ | refine AW_regX (by kernel_rfl) ?_ | refine CallAtG.t (Eq.refl true) ?_ | refine CallAtG.f (Eq.refl false) ?_ | refine CallAt.mk _ (ga ..) (by first | (intro h; cases h; done) | (intro _; repeat' (first | exact List.forall_mem_nil _ | trivial | refine List.forall_mem_cons.2 ⟨?_, ?_⟩)) | (intro _; simp [RV.flatP, CD.flatP, maxLen]; done)) ?_ | refine CallAtG.mk _ (fun _ => ga ..) ?_ | refine CallDS.mk _ (by simp [RV.data]) (fun _ => ga ..) (by first | (intro h; cases h; done) | (intro _; repeat' (first | exact List.forall_mem_nil _ | trivial | refine List.forall_mem_cons.2 ⟨?_, ?_⟩)) | (intro _; simp [RV.flatP, CD.flatP, maxLen]; done)) ?_ | refine CallAt.mk _ (gb ..) (by first | (intro h; cases h; done) | (intro _; repeat' (first | exact List.forall_mem_nil _ | trivial | refine List.forall_mem_cons.2 ⟨?_, ?_⟩)) | (intro _; simp [RV.flatP, CD.flatP, maxLen]; done)) ?_ | refine CallAtG.mk _ (fun _ => gb ..) ?_ | refine CallDS.mk _ (by simp [RV.data]) (fun _ => gb ..) (by first | (intro h; cases h; done) | (intro _; repeat' (first | exact List.forall_mem_nil _ | trivial | refine List.forall_mem_cons.2 ⟨?_, ?_⟩)) | (intro _; simp [RV.flatP, CD.flatP, maxLen]; done)) ?_); try simp (disch := omega) only [go_sem, Nat.reduceLT, Nat.reduceAdd, Nat.reduceSub, Nat.reduceMul, Nat.reduceMod, Nat.reduceDiv, Nat.reduceBEq, Nat.reduceEqDiff, Nat.reduceLeDiff, reduceCtorEq, ↓reduceIte, beq_dec, Int.reduceToNat, Int.reduceLT, Int.reduceLE, Int.reduceAdd, Int.reduceSub, Int.reduceMul, Int.reduceEq, Int.reduceNeg, Int.reduceNe, Int.toNat_natCast, IntKind.signed, IntKind.bits, Int.reducePow, Nat.reducePow, maxLen]) | refine And.intro (fun hc => (?_ : AW _ _ _ _)) (fun hc => (?_ : AW _ _ _ _)) | simp (disch := omega) only [go_sem, Nat.reduceLT, Nat.reduceAdd, Nat.reduceSub, Nat.reduceMul, Nat.reduceMod, Nat.reduceDiv, Nat.reduceBEq, Nat.reduceEqDiff, Nat.reduceLeDiff, reduceCtorEq, ↓reduceIte, beq_dec, Int.reduceToNat, Int.reduceLT, Int.reduceLE, Int.reduceAdd, Int.reduceSub, Int.reduceMul, Int.reduceEq, Int.reduceNeg, Int.reduceNe, Int.toNat_natCast, IntKind.signed, IntKind.bits, Int.reducePow, Nat.reducePow, maxLen] | (refine And.intro ?_ ?_; focus (first | (intros; omega) | (intros; simp_all; done))) | refine And.intro (?_ : CallAt _ _ _ _ _ _ _ _) ?_ | refine And.intro (?_ : CallAt _ _ _ _ _ _ _ _ ∧ _) ?_ | refine And.intro (?_ : AW _ _ _ _) ?_ | fail))
end Go.Proofs.Ytklkehlccjofoaa

-- P p_12.txt
open Go Go.AL Go.RowKit Go.Shelf
namespace Go.Proofs.Ytklkehlccjofoaa
set_option maxRecDepth 20000
abbrev KLt (a b : Int × Int) : Prop := a.1 < b.1
theorem pw_extP : ∀ {a b : List (Int × Int)}, a.Pairwise KLt → b.Pairwise KLt → (∀ x, x ∈ a ↔ x ∈ b) → a = b
  | [], [], _, _, _ => rfl
  | [], y :: b, _, _, h => absurd ((h y).2 (by simp)) (by simp)
  | x :: a, [], _, _, h => absurd ((h x).1 (by simp)) (by simp)
  | x :: a, y :: b, ha, hb, h => by
    rw [List.pairwise_cons] at ha hb
    have h1 := (h x).1 (by simp)
    have h2 := (h y).2 (by simp)
    have e : x = y := by
      rcases List.mem_cons.1 h1 with e | h1
      · exact e
      · rcases List.mem_cons.1 h2 with e | h2
        · exact e.symm
        · have := ha.1 y h2; have := hb.1 x h1; unfold KLt at *; omega
    subst e
    congr 1
    refine pw_extP ha.2 hb.2 fun z => ⟨fun hz => ?_, fun hz => ?_⟩
    · rcases List.mem_cons.1 ((h z).1 (List.mem_cons_of_mem _ hz)) with e | h'
      · have := ha.1 z hz; subst e; unfold KLt at this; omega
      · exact h'
    · rcases List.mem_cons.1 ((h z).2 (List.mem_cons_of_mem _ hz)) with e | h'
      · have := hb.1 z hz; subst e; unfold KLt at this; omega
      · exact h'
/-- the list that a function on keys gives -/
def listR (f : Int → Sd) (K : List Int) : List (Int × Int) := K.flatMap fun k => if (f k).is then [(k, (f k).v)] else []
theorem listR_cons (f : Int → Sd) (k : Int) (r : List Int) : listR f (k :: r) = (if (f k).is then [(k, (f k).v)] else []) ++ listR f r := by unfold listR; rw [List.flatMap_cons]
theorem listR_mem (f : Int → Sd) (K : List Int) (x : Int × Int) : x ∈ listR f K ↔ x.1 ∈ K ∧ f x.1 = ⟨x.2, true⟩ := by
  unfold listR
  rw [List.mem_flatMap]
  constructor
  · rintro ⟨k, hk, hx⟩
    split at hx
    · rename_i hi
      rw [List.mem_singleton] at hx
      subst hx
      refine ⟨hk, ?_⟩
      rcases hfk : f k with ⟨v, i⟩
      rw [hfk] at hi
      have hi : i = true := hi
      rw [hi]
    · simp at hx
  · rintro ⟨hk, hf⟩
    refine ⟨x.1, hk, ?_⟩
    rw [hf]
    simp
theorem listR_pw (f : Int → Sd) {K : List Int} (hK : K.Pairwise (· < ·)) : (listR f K).Pairwise KLt := by
  induction K with
  | nil => simp [listR]
  | cons k r ih =>
    rw [List.pairwise_cons] at hK
    rw [listR_cons, List.pairwise_append]
    refine ⟨by split <;> simp, ih hK.2, fun x hx y hy => ?_⟩
    rw [listR_mem] at hy
    split at hx
    · rw [List.mem_singleton] at hx; subst hx; exact hK.1 _ hy.1
    · simp at hx
theorem listR_cong {f g : Int → Sd} {K : List Int} (h : ∀ k ∈ K, f k = g k) : listR f K = listR g K := by
  induction K with
  | nil => rfl
  | cons k r ih =>
    rw [listR_cons, listR_cons, h k (by simp), ih fun x hx => h x (by simp [hx])]
theorem listR_len (f : Int → Sd) (K : List Int) : (listR f K).length ≤ K.length := by
  induction K with
  | nil => simp [listR]
  | cons k r ih =>
    rw [listR_cons, List.length_append]
    split <;> simp only [List.length_cons, List.length_nil] <;> omega
theorem validE_pwP {l : List (Int × Int)} (h : validE l = true) : l.Pairwise KLt := by
  have := validE_pw h
  rw [List.pairwise_map] at this
  exact this
theorem validE_of {l : List (Int × Int)} (h : l.Pairwise KLt) (hl : l.length ≤ 64) : validE l = true := by
  unfold validE
  rw [decide_eq_true_eq]
  refine ⟨hl, fun i hi h0 => ?_⟩
  rw [List.pairwise_iff_getElem] at h
  rw [nth_eq l i hi, nth_eq l (i - 1) (by omega)]
  exact h (i - 1) i (by omega) hi (by omega)
theorem atR_no {l : List (Int × Int)} {k : Int} (h : k ∉ l.map Prod.fst) : atR l k = ⟨0, false⟩ := atR_none fun j hj e => h (by
  rw [nth_eq l j hj] at e
  exact List.mem_map.2 ⟨l[j], List.getElem_mem hj, e⟩)
theorem atR_mem {l : List (Int × Int)} (h : l.Pairwise KLt) (k v : Int) : atR l k = ⟨v, true⟩ ↔ (k, v) ∈ l := by
  induction l with
  | nil => simp [atR]
  | cons p r ih =>
    rw [List.pairwise_cons] at h
    unfold atR
    split
    · rename_i e
      subst e
      constructor
      · intro e; simp at e; subst e; simp
      · intro hm
        rcases List.mem_cons.1 hm with e | hm
        · rw [← e]
        · have := h.1 _ hm; unfold KLt at this; simp at this
    · rename_i e
      rw [ih h.2, List.mem_cons]
      constructor
      · exact .inr
      · rintro (e' | h')
        · exact absurd (by rw [← e']) e
        · exact h'
theorem atR_zero (l : List (Int × Int)) (k : Int) (h : (atR l k).is = false) : atR l k = ⟨0, false⟩ := by
  induction l with
  | nil => rfl
  | cons p r ih =>
    unfold atR at h ⊢
    split
    · rename_i e; rw [if_pos e] at h; cases h
    · rename_i e; rw [if_neg e] at h; exact ih h
theorem listR_atR {l : List (Int × Int)} (h : l.Pairwise KLt) {K : List Int} (hK : K.Pairwise (· < ·)) (hs : ∀ k ∈ l.map Prod.fst, k ∈ K) : listR (atR l) K = l := by
  refine pw_extP (listR_pw _ hK) h fun x => ?_
  rw [listR_mem, atR_mem h]
  exact ⟨fun h => h.2, fun hx => ⟨hs _ (List.mem_map_of_mem hx), hx⟩⟩
theorem atR_listR (f : Int → Sd) {K : List Int} (hK : K.Pairwise (· < ·)) (hz : ∀ k, (f k).is = false → f k = ⟨0, false⟩) (k : Int) : atR (listR f K) k = if k ∈ K then f k else ⟨0, false⟩ := by
  have hp := listR_pw f hK
  split
  · rename_i hk
    cases hi : (f k).is with
    | true =>
      have e : f k = ⟨(f k).v, true⟩ := by
        rcases hfk : f k with ⟨v, i⟩; rw [hfk] at hi; simp at hi; rw [hi]
      rw [e, atR_mem hp, listR_mem]
      exact ⟨hk, e⟩
    | false =>
      rw [hz k hi]
      refine atR_no fun hm => ?_
      obtain ⟨x, hx, rfl⟩ := List.mem_map.1 hm
      rw [listR_mem] at hx
      rw [hx.2] at hi; cases hi
  · rename_i hk
    refine atR_no fun hm => ?_
    obtain ⟨x, hx, rfl⟩ := List.mem_map.1 hm
    rw [listR_mem] at hx
    exact hk hx.1
/-! ### tables -/
theorem lookS_setx (m : Tab) (k : Int) (s : Sd) (x : Int) : lookS (setS m k s) x = if k = x then s else lookS m x := by
  induction m with
  | nil => simp [setS, lookS]
  | cons p r ih =>
    unfold setS
    by_cases h : p.1 = k
    · rw [if_pos h]
      unfold lookS
      by_cases hx : k = x
      · rw [if_pos hx, if_pos (by rw [h, hx])]
      · rw [if_neg hx, if_neg (by rw [h]; exact hx), if_neg (by rw [h]; exact hx)]
    · rw [if_neg h]
      unfold lookS
      rw [ih]
      by_cases hp : p.1 = x
      · rw [if_pos hp, if_pos hp, if_neg]
        intro e; exact h (by rw [hp, e])
      · rw [if_neg hp, if_neg hp]
theorem foldT_look (p : Int → Sd) (ks : List Int) : ∀ (m : Tab) (x : Int), lookS (ks.foldl (fun m k => setS m k (p k)) m) x = if x ∈ ks then p x else lookS m x := by
  induction ks with
  | nil => intro m x; simp
  | cons k r ih =>
    intro m x
    rw [List.foldl_cons, ih, lookS_setx]
    by_cases hr : x ∈ r
    · rw [if_pos hr, if_pos (by simp [hr])]
    · rw [if_neg hr]
      by_cases hk : k = x
      · rw [if_pos hk, if_pos (by simp [hk]), hk]
      · rw [if_neg hk, if_neg]
        simp only [List.mem_cons, not_or]; exact ⟨fun e => hk e.symm, hr⟩
theorem foldT_keys (p : Int → Sd) (ks : List Int) : ∀ (m : Tab) (x : Int), x ∈ (ks.foldl (fun m k => setS m k (p k)) m).map Prod.fst ↔ x ∈ ks ∨ x ∈ m.map Prod.fst := by
  induction ks with
  | nil => intro m x; simp
  | cons k r ih =>
    intro m x
    rw [List.foldl_cons, ih, setS_keys]
    by_cases hk : k ∈ m.map Prod.fst
    · rw [if_pos hk, List.mem_cons]
      constructor
      · rintro (h | h)
        · exact .inl (.inr h)
        · exact .inr h
      · rintro ((h | h) | h)
        · subst h; exact .inr hk
        · exact .inl h
        · exact .inr h
    · rw [if_neg hk, List.mem_append, List.mem_singleton, List.mem_cons]
      constructor
      · rintro (h | h | h)
        · exact .inl (.inr h)
        · exact .inr h
        · exact .inl (.inl h)
      · rintro ((h | h) | h)
        · exact .inr (.inr h)
        · exact .inl h
        · exact .inr (.inl h)
theorem listS_eq (m : Tab) (K : List Int) : listS m K = listR (lookS m) K := rfl
theorem allS_eq {m : Tab} {K : List Int} (hK : K.Pairwise (· < ·)) (hk : ∀ x, x ∈ m.map Prod.fst ↔ x ∈ K) : allS m = listR (lookS m) K := by
  unfold allS
  rw [listS_eq, pw_ext (insAll_pw _) hK fun x => by rw [insAll_mem, hk]]
theorem foldT_all (p : Int → Sd) {ks : List Int} (hK : ks.Pairwise (· < ·)) : allS (ks.foldl (fun m k => setS m k (p k)) []) = listR p ks := by
  rw [allS_eq hK fun x => by rw [foldT_keys]; simp]
  exact listR_cong fun k hk => by rw [foldT_look, if_pos hk]
/-! ### merges -/
theorem merO_eq (a b c : List (Int × Int)) : merO a b c = listR (fun k => pickS (atR a k) (atR b k) (atR c k)) (K3 a b c) := by
  unfold merO merM merT
  exact foldT_all (fun k => pickS (atR a k) (atR b k) (atR c k)) (insAll_pw _)
theorem K3_mem (a b c : List (Int × Int)) (x : Int) : x ∈ K3 a b c ↔ x ∈ a.map Prod.fst ∨ x ∈ b.map Prod.fst ∨ x ∈ c.map Prod.fst := by
  unfold K3; rw [insAll_mem, List.mem_append, List.mem_append]
theorem pick_l (x z : Sd) : pickS x x z = z := by
  unfold pickS
  split
  · rename_i h; rcases h with h | h <;> simp [h]
  · simp
theorem pick_r (x z : Sd) : pickS x z z = z := by simp [pickS]
theorem clash_l (x z : Sd) : clash x x z = false := by simp [clash]
theorem clash_r (x z : Sd) : clash x z z = false := by simp [clash]
theorem side_l {a b : List (Int × Int)} (ha : validE a = true) (hb : validE b = true) : merE a a b = 0 ∧ merL a a b = b ∧ confL a a b = [] := by
  have hm : merO a a b = b := by
    rw [merO_eq, listR_cong (g := atR b) fun k _ => pick_l _ _]
    exact listR_atR (validE_pwP hb) (insAll_pw _) fun k hk => (K3_mem _ _ _ _).2 (.inr (.inr hk))
  have hc : confO a a b = [] := by
    unfold confO confP
    rw [List.filter_eq_nil_iff]
    intro k _; rw [clash_l]; simp
  have hl := validE_len hb
  have he : merE a a b = 0 := by
    unfold merE
    rw [if_pos (by simp [ha, hb]), if_neg (by rw [hm, hc]; simp; omega)]
  refine ⟨he, ?_, ?_⟩
  · unfold merL; rw [he, hm]; rfl
  · unfold confL; rw [he, hc]; rfl
theorem side_r {a b : List (Int × Int)} (ha : validE a = true) (hb : validE b = true) : merE a b b = 0 ∧ merL a b b = b ∧ confL a b b = [] := by
  have hm : merO a b b = b := by
    rw [merO_eq, listR_cong (g := atR b) fun k _ => pick_r _ _]
    exact listR_atR (validE_pwP hb) (insAll_pw _) fun k hk => (K3_mem _ _ _ _).2 (.inr (.inr hk))
  have hc : confO a b b = [] := by
    unfold confO confP
    rw [List.filter_eq_nil_iff]
    intro k _; rw [clash_r]; simp
  have hl := validE_len hb
  have he : merE a b b = 0 := by
    unfold merE
    rw [if_pos (by simp [ha, hb]), if_neg (by rw [hm, hc]; simp; omega)]
  refine ⟨he, ?_, ?_⟩
  · unfold merL; rw [he, hm]; rfl
  · unfold confL; rw [he, hc]; rfl
theorem mer_bad {a b c : List (Int × Int)} (h : ¬ (validE a = true ∧ validE b = true ∧ validE c = true)) : merE a b c = 1 ∧ merL a b c = [] ∧ confL a b c = [] := by
  have he := merE_bad h
  refine ⟨he, ?_, ?_⟩
  · unfold merL; rw [he]; rfl
  · unfold confL; rw [he]; rfl
end Go.Proofs.Ytklkehlccjofoaa

-- P p_12.txt
open Go Go.AL Go.RowKit Go.Shelf
namespace Go.Proofs.Ytklkehlccjofoaa
set_option maxRecDepth 20000
set_option maxHeartbeats 2000000 in
theorem f5 (a b : List (Int × Int)) : FnR Try.prog 5 [.c (EL a), .c (EL b)] [.c (.B true)] := by
  have gb := f16s b
  have g1 := f17 a a b
  have g2 := f17 a b b
  by_cases hv : validE a = true ∧ validE b = true
  · obtain ⟨ha, hb⟩ := hv
    obtain ⟨e1, e2, e3⟩ := side_l ha hb
    obtain ⟨e4, e5, e6⟩ := side_r ha hb
    rw [e1, e2, e3] at g1
    rw [e4, e5, e6] at g2
    refine fn_walk code5 (by simp) ?_
    (repeat' (first | refine NextAt.mk (fun hc => ?_) (fun pre n v post hc hkey => ?_) | refine Sni.mk (fun hc => ?_) ?_ | refine Both.mk ?_ ?_ | refine AW_seq ?_ | refine AW_block ?_ | ((first | refine AW_reg ?_ | refine AW_cond ?_ | refine AW_skip ?_ | refine AW_exit ?_ | refine AW_ret ?_ | refine AW_regD (by kernel_rfl) ?_ | refine AW_regX (by kernel_rfl) ?_ | refine CallAtG.t (Eq.refl true) ?_ | refine CallAtG.f (Eq.refl false) ?_ | refine CallAt.mk _ (f11 ..) (by first | (intro h; cases h; done) | (intro _; repeat' (first | exact List.forall_mem_nil _ | trivial | refine List.forall_mem_cons.2 ⟨?_, ?_⟩)) | (intro _; simp [RV.flatP, CD.flatP, ha, hb]; done)) ?_ | refine CallAtG.mk _ (fun _ => f11 ..) ?_ | refine CallDS.mk _ (by simp [RV.data]) (fun _ => f11 ..) (by first | (intro h; cases h; done) | (intro _; repeat' (first | exact List.forall_mem_nil _ | trivial | refine List.forall_mem_cons.2 ⟨?_, ?_⟩)) | (intro _; simp [RV.flatP, CD.flatP, ha, hb]; done)) ?_ | refine CallAt.mk _ (f12 ..) (by first | (intro h; cases h; done) | (intro _; repeat' (first | exact List.forall_mem_nil _ | trivial | refine List.forall_mem_cons.2 ⟨?_, ?_⟩)) | (intro _; simp [RV.flatP, CD.flatP, ha, hb]; done)) ?_ | refine CallAtG.mk _ (fun _ => f12 ..) ?_ | refine CallDS.mk _ (by simp [RV.data]) (fun _ => f12 ..) (by first | (intro h; cases h; done) | (intro _; repeat' (first | exact List.forall_mem_nil _ | trivial | refine List.forall_mem_cons.2 ⟨?_, ?_⟩)) | (intro _; simp [RV.flatP, CD.flatP, ha, hb]; done)) ?_ | refine CallAt.mk _ (g1 ..) (by first | (intro h; cases h; done) | (intro _; repeat' (first | exact List.forall_mem_nil _ | trivial | refine List.forall_mem_cons.2 ⟨?_, ?_⟩)) | (intro _; simp [RV.flatP, CD.flatP, ha, hb]; done)) ?_ | refine CallAtG.mk _ (fun _ => g1 ..) ?_ | refine CallDS.mk _ (by simp [RV.data]) (fun _ => g1 ..) (by first | (intro h; cases h; done) | (intro _; repeat' (first | exact List.forall_mem_nil _ | trivial | refine List.forall_mem_cons.2 ⟨?_, ?_⟩)) | (intro _; simp [RV.flatP, CD.flatP, ha, hb]; done)) ?_ | refine CallAt.mk _ (g2 ..) (by first | (intro h; cases h; done) | (intro _; repeat' (first | exact List.forall_mem_nil _ | trivial | refine List.forall_mem_cons.2 ⟨?_, ?_⟩)) | (intro _; simp [RV.flatP, CD.flatP, ha, hb]; done)) ?_ | refine CallAtG.mk _ (fun _ => g2 ..) ?_ | refine CallDS.mk _ (by simp [RV.data]) (fun _ => g2 ..) (by first | (intro h; cases h; done) | (intro _; repeat' (first | exact List.forall_mem_nil _ | trivial | refine List.forall_mem_cons.2 ⟨?_, ?_⟩)) | (intro _; simp [RV.flatP, CD.flatP, ha, hb]; done)) ?_ | refine CallAt.mk _ (f20 ..) (by first | (intro h; cases h; done) | (intro _; repeat' (first | exact List.forall_mem_nil _ | trivial | refine List.forall_mem_cons.2 ⟨?_, ?_⟩)) | (intro _; simp [RV.flatP, CD.flatP, ha, hb]; done)) ?_ | refine CallAtG.mk _ (fun _ => f20 ..) ?_ | refine CallDS.mk _ (by simp [RV.data]) (fun _ => f20 ..) (by first | (intro h; cases h; done) | (intro _; repeat' (first | exact List.forall_mem_nil _ | trivial | refine List.forall_mem_cons.2 ⟨?_, ?_⟩)) | (intro _; simp [RV.flatP, CD.flatP, ha, hb]; done)) ?_); try simp (disch := omega) only [go_sem, Nat.reduceLT, Nat.reduceAdd, Nat.reduceSub, Nat.reduceMul, Nat.reduceMod, Nat.reduceDiv, Nat.reduceBEq, Nat.reduceEqDiff, Nat.reduceLeDiff, reduceCtorEq, ↓reduceIte, beq_dec, Int.reduceToNat, Int.reduceLT, Int.reduceLE, Int.reduceAdd, Int.reduceSub, Int.reduceMul, Int.reduceEq, Int.reduceNeg, Int.reduceNe, Int.toNat_natCast, IntKind.signed, IntKind.bits, Int.reducePow, Nat.reducePow, ha, hb]) | refine And.intro (fun hc => (?_ : AW _ _ _ _)) (fun hc => (?_ : AW _ _ _ _)) | simp (disch := omega) only [go_sem, Nat.reduceLT, Nat.reduceAdd, Nat.reduceSub, Nat.reduceMul, Nat.reduceMod, Nat.reduceDiv, Nat.reduceBEq, Nat.reduceEqDiff, Nat.reduceLeDiff, reduceCtorEq, ↓reduceIte, beq_dec, Int.reduceToNat, Int.reduceLT, Int.reduceLE, Int.reduceAdd, Int.reduceSub, Int.reduceMul, Int.reduceEq, Int.reduceNeg, Int.reduceNe, Int.toNat_natCast, IntKind.signed, IntKind.bits, Int.reducePow, Nat.reducePow, ha, hb] | (refine And.intro ?_ ?_; focus (first | (intros; omega) | (intros; simp_all; done))) | refine And.intro (?_ : CallAt _ _ _ _ _ _ _ _) ?_ | refine And.intro (?_ : CallAt _ _ _ _ _ _ _ _ ∧ _) ?_ | refine And.intro (?_ : AW _ _ _ _) ?_ | fail))
    refine CallAt.frz [28] ?_
    simp (disch := omega) only [go_sem, Nat.reduceLT, Nat.reduceAdd, Nat.reduceSub, Nat.reduceMul, Nat.reduceMod, Nat.reduceDiv, Nat.reduceBEq, Nat.reduceEqDiff, Nat.reduceLeDiff, reduceCtorEq, ↓reduceIte, beq_dec, Int.reduceToNat, Int.reduceLT, Int.reduceLE, Int.reduceAdd, Int.reduceSub, Int.reduceMul, Int.reduceEq, Int.reduceNeg, Int.reduceNe, Int.toNat_natCast, IntKind.signed, IntKind.bits, Int.reducePow, Nat.reducePow]
    refine CallAt.mk _ gb (fun h => by cases h) ?_
    (repeat' (first | refine NextAt.mk (fun hc => ?_) (fun pre n v post hc hkey => ?_) | refine Sni.mk (fun hc => ?_) ?_ | refine Both.mk ?_ ?_ | refine AW_seq ?_ | refine AW_block ?_ | ((first | refine AW_reg ?_ | refine AW_cond ?_ | refine AW_skip ?_ | refine AW_exit ?_ | refine AW_ret ?_ | refine AW_regD (by kernel_rfl) ?_ | refine AW_regX (by kernel_rfl) ?_ | refine CallAtG.t (Eq.refl true) ?_ | refine CallAtG.f (Eq.refl false) ?_); try simp (disch := omega) only [go_sem, Nat.reduceLT, Nat.reduceAdd, Nat.reduceSub, Nat.reduceMul, Nat.reduceMod, Nat.reduceDiv, Nat.reduceBEq, Nat.reduceEqDiff, Nat.reduceLeDiff, reduceCtorEq, ↓reduceIte, beq_dec, Int.reduceToNat, Int.reduceLT, Int.reduceLE, Int.reduceAdd, Int.reduceSub, Int.reduceMul, Int.reduceEq, Int.reduceNeg, Int.reduceNe, Int.toNat_natCast, IntKind.signed, IntKind.bits, Int.reducePow, Nat.reducePow]) | refine And.intro (fun hc => (?_ : AW _ _ _ _)) (fun hc => (?_ : AW _ _ _ _)) | simp (disch := omega) only [go_sem, Nat.reduceLT, Nat.reduceAdd, Nat.reduceSub, Nat.reduceMul, Nat.reduceMod, Nat.reduceDiv, Nat.reduceBEq, Nat.reduceEqDiff, Nat.reduceLeDiff, reduceCtorEq, ↓reduceIte, beq_dec, Int.reduceToNat, Int.reduceLT, Int.reduceLE, Int.reduceAdd, Int.reduceSub, Int.reduceMul, Int.reduceEq, Int.reduceNeg, Int.reduceNe, Int.toNat_natCast, IntKind.signed, IntKind.bits, Int.reducePow, Nat.reducePow] | (refine And.intro ?_ ?_; focus (first | (intros; omega) | (intros; simp_all; done))) | refine And.intro (?_ : CallAt _ _ _ _ _ _ _ _) ?_ | refine And.intro (?_ : CallAt _ _ _ _ _ _ _ _ ∧ _) ?_ | refine And.intro (?_ : AW _ _ _ _) ?_ | fail))
    refine CallAt.frz [36] ?_
    simp (disch := omega) only [go_sem, Nat.reduceLT, Nat.reduceAdd, Nat.reduceSub, Nat.reduceMul, Nat.reduceMod, Nat.reduceDiv, Nat.reduceBEq, Nat.reduceEqDiff, Nat.reduceLeDiff, reduceCtorEq, ↓reduceIte, beq_dec, Int.reduceToNat, Int.reduceLT, Int.reduceLE, Int.reduceAdd, Int.reduceSub, Int.reduceMul, Int.reduceEq, Int.reduceNeg, Int.reduceNe, Int.toNat_natCast, IntKind.signed, IntKind.bits, Int.reducePow, Nat.reducePow]
    refine CallAt.mk _ gb (fun h => by cases h) ?_
    (repeat' (first | refine NextAt.mk (fun hc => ?_) (fun pre n v post hc hkey => ?_) | refine Sni.mk (fun hc => ?_) ?_ | refine Both.mk ?_ ?_ | refine AW_seq ?_ | refine AW_block ?_ | ((first | refine AW_reg ?_ | refine AW_cond ?_ | refine AW_skip ?_ | refine AW_exit ?_ | refine AW_ret ?_ | refine AW_regD (by kernel_rfl) ?_ | refine AW_regX (by kernel_rfl) ?_ | refine CallAtG.t (Eq.refl true) ?_ | refine CallAtG.f (Eq.refl false) ?_); try simp (disch := omega) only [go_sem, Nat.reduceLT, Nat.reduceAdd, Nat.reduceSub, Nat.reduceMul, Nat.reduceMod, Nat.reduceDiv, Nat.reduceBEq, Nat.reduceEqDiff, Nat.reduceLeDiff, reduceCtorEq, ↓reduceIte, beq_dec, Int.reduceToNat, Int.reduceLT, Int.reduceLE, Int.reduceAdd, Int.reduceSub, Int.reduceMul, Int.reduceEq, Int.reduceNeg, Int.reduceNe, Int.toNat_natCast, IntKind.signed, IntKind.bits, Int.reducePow, Nat.reducePow]) | refine And.intro (fun hc => (?_ : AW _ _ _ _)) (fun hc => (?_ : AW _ _ _ _)) | simp (disch := omega) only [go_sem, Nat.reduceLT, Nat.reduceAdd, Nat.reduceSub, Nat.reduceMul, Nat.reduceMod, Nat.reduceDiv, Nat.reduceBEq, Nat.reduceEqDiff, Nat.reduceLeDiff, reduceCtorEq, ↓reduceIte, beq_dec, Int.reduceToNat, Int.reduceLT, Int.reduceLE, Int.reduceAdd, Int.reduceSub, Int.reduceMul, Int.reduceEq, Int.reduceNeg, Int.reduceNe, Int.toNat_natCast, IntKind.signed, IntKind.bits, Int.reducePow, Nat.reducePow] | (refine And.intro ?_ ?_; focus (first | (intros; omega) | (intros; simp_all; done))) | refine And.intro (?_ : CallAt _ _ _ _ _ _ _ _) ?_ | refine And.intro (?_ : CallAt _ _ _ _ _ _ _ _ ∧ _) ?_ | refine And.intro (?_ : AW _ _ _ _) ?_ | fail))
    all_goals rfl
  · obtain ⟨e1, e2, e3⟩ := @mer_bad a a b (fun h => hv ⟨h.1, h.2.2⟩)
    obtain ⟨e4, e5, e6⟩ := @mer_bad a b b (fun h => hv ⟨h.1, h.2.1⟩)
    rw [e1, e2, e3] at g1
    rw [e4, e5, e6] at g2
    refine fn_walk code5 (by simp) ?_
    (repeat' (first | refine NextAt.mk (fun hc => ?_) (fun pre n v post hc hkey => ?_) | refine Sni.mk (fun hc => ?_) ?_ | refine Both.mk ?_ ?_ | refine AW_seq ?_ | refine AW_block ?_ | ((first | refine AW_reg ?_ | refine AW_cond ?_ | refine AW_skip ?_ | refine AW_exit ?_ | refine AW_ret ?_ | refine AW_regD (by kernel_rfl) ?_ | refine AW_regX (by kernel_rfl) ?_ | refine CallAtG.t (Eq.refl true) ?_ | refine CallAtG.f (Eq.refl false) ?_ | refine CallAt.mk _ (f11 ..) (by first | (intro h; cases h; done) | (intro _; repeat' (first | exact List.forall_mem_nil _ | trivial | refine List.forall_mem_cons.2 ⟨?_, ?_⟩)) | (intro _; simp [RV.flatP, CD.flatP]; done)) ?_ | refine CallAtG.mk _ (fun _ => f11 ..) ?_ | refine CallDS.mk _ (by simp [RV.data]) (fun _ => f11 ..) (by first | (intro h; cases h; done) | (intro _; repeat' (first | exact List.forall_mem_nil _ | trivial | refine List.forall_mem_cons.2 ⟨?_, ?_⟩)) | (intro _; simp [RV.flatP, CD.flatP]; done)) ?_ | refine CallAt.mk _ (f12 ..) (by first | (intro h; cases h; done) | (intro _; repeat' (first | exact List.forall_mem_nil _ | trivial | refine List.forall_mem_cons.2 ⟨?_, ?_⟩)) | (intro _; simp [RV.flatP, CD.flatP]; done)) ?_ | refine CallAtG.mk _ (fun _ => f12 ..) ?_ | refine CallDS.mk _ (by simp [RV.data]) (fun _ => f12 ..) (by first | (intro h; cases h; done) | (intro _; repeat' (first | exact List.forall_mem_nil _ | trivial | refine List.forall_mem_cons.2 ⟨?_, ?_⟩)) | (intro _; simp [RV.flatP, CD.flatP]; done)) ?_ | refine CallAt.mk _ (g1 ..) (by first | (intro h; cases h; done) | (intro _; repeat' (first | exact List.forall_mem_nil _ | trivial | refine List.forall_mem_cons.2 ⟨?_, ?_⟩)) | (intro _; simp [RV.flatP, CD.flatP]; done)) ?_ | refine CallAtG.mk _ (fun _ => g1 ..) ?_ | refine CallDS.mk _ (by simp [RV.data]) (fun _ => g1 ..) (by first | (intro h; cases h; done) | (intro _; repeat' (first | exact List.forall_mem_nil _ | trivial | refine List.forall_mem_cons.2 ⟨?_, ?_⟩)) | (intro _; simp [RV.flatP, CD.flatP]; done)) ?_ | refine CallAt.mk _ (g2 ..) (by first | (intro h; cases h; done) | (intro _; repeat' (first | exact List.forall_mem_nil _ | trivial | refine List.forall_mem_cons.2 ⟨?_, ?_⟩)) | (intro _; simp [RV.flatP, CD.flatP]; done)) ?_ | refine CallAtG.mk _ (fun _ => g2 ..) ?_ | refine CallDS.mk _ (by simp [RV.data]) (fun _ => g2 ..) (by first | (intro h; cases h; done) | (intro _; repeat' (first | exact List.forall_mem_nil _ | trivial | refine List.forall_mem_cons.2 ⟨?_, ?_⟩)) | (intro _; simp [RV.flatP, CD.flatP]; done)) ?_ | refine CallAt.mk _ (f20 ..) (by first | (intro h; cases h; done) | (intro _; repeat' (first | exact List.forall_mem_nil _ | trivial | refine List.forall_mem_cons.2 ⟨?_, ?_⟩)) | (intro _; simp [RV.flatP, CD.flatP]; done)) ?_ | refine CallAtG.mk _ (fun _ => f20 ..) ?_ | refine CallDS.mk _ (by simp [RV.data]) (fun _ => f20 ..) (by first | (intro h; cases h; done) | (intro _; repeat' (first | exact List.forall_mem_nil _ | trivial | refine List.forall_mem_cons.2 ⟨?_, ?_⟩)) | (intro _; simp [RV.flatP, CD.flatP]; done)) ?_); try simp (disch := omega) only [go_sem, Nat.reduceLT, Nat.reduceAdd, Nat.reduceSub, Nat.reduceMul, Nat.reduceMod, Nat.reduceDiv, Nat.reduceBEq, Nat.reduceEqDiff, Nat.reduceLeDiff, reduceCtorEq, ↓reduceIte, beq_dec, Int.reduceToNat, Int.reduceLT, Int.reduceLE, Int.reduceAdd, Int.reduceSub, Int.reduceMul, Int.reduceEq, Int.reduceNeg, Int.reduceNe, Int.toNat_natCast, IntKind.signed, IntKind.bits, Int.reducePow, Nat.reducePow]) | refine And.intro (fun hc => (?_ : AW _ _ _ _)) (fun hc => (?_ : AW _ _ _ _)) | simp (disch := omega) only [go_sem, Nat.reduceLT, Nat.reduceAdd, Nat.reduceSub, Nat.reduceMul, Nat.reduceMod, Nat.reduceDiv, Nat.reduceBEq, Nat.reduceEqDiff, Nat.reduceLeDiff, reduceCtorEq, ↓reduceIte, beq_dec, Int.reduceToNat, Int.reduceLT, Int.reduceLE, Int.reduceAdd, Int.reduceSub, Int.reduceMul, Int.reduceEq, Int.reduceNeg, Int.reduceNe, Int.toNat_natCast, IntKind.signed, IntKind.bits, Int.reducePow, Nat.reducePow] | (refine And.intro ?_ ?_; focus (first | (intros; omega) | (intros; simp_all; done))) | refine And.intro (?_ : CallAt _ _ _ _ _ _ _ _) ?_ | refine And.intro (?_ : CallAt _ _ _ _ _ _ _ _ ∧ _) ?_ | refine And.intro (?_ : AW _ _ _ _) ?_ | fail))
    all_goals first | rfl | exact hv hc
end Go.Proofs.Ytklkehlccjofoaa

