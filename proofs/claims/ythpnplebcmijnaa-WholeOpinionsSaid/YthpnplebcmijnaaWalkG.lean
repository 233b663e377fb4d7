/-
  Lemmas for the proof: no statement of its own.
-/
import Derived.Test.YthpnplebcmijnaaWalkE
set_option linter.unusedVariables false
set_option linter.unusedSimpArgs false
-- P p_w.txt
open Go Go.AL Go.RowKit Go.Shelf
namespace Go.Proofs.Ythpnplebcmijnaa
set_option maxRecDepth 20000
def in29 (q : List Chg) (i : Nat) (es : List (List Int × Sum CD (List CD))) (o c : Chg) : St := ⟨101, [(38, .I i), (37, .I q.length), (36, .c (CL q)), (6, .own 24), (10, .ptr 10 0), (11, .ptr 11 0)], [(24, .map (.one .i64) es), (10, .box 37 [.c (.I c.key), .c (.I c.old), .c (.I c.new), .c (.B c.had), .c (.B c.has)]), (11, .box 37 [.I o.key, .I o.old, .I o.new, .B o.had, .B o.has])]⟩
def ou29 (q : List Chg) (i : Nat) (es : List (List Int × Sum CD (List CD))) (o c : Chg) : St := ⟨101, [(38, .I i), (37, .I q.length), (36, .c (CL q)), (6, .own 24)], [(24, .map (.one .i64) (mset es [c.key] (.inr [.I c.key, .I o.old, .I c.new, .B o.had, .B c.has])))]⟩
theorem h39 (c : Chg) : FnR Try.prog 18 [.agg [.I c.key, .I c.old, .I c.new, .B c.had, .B c.has]] [.agg [.I c.new, .B c.has]] := f39 c
theorem h40 (c : Chg) : FnR Try.prog 17 [.agg [.I c.key, .I c.old, .I c.new, .B c.had, .B c.has]] [.agg [.I c.old, .B c.had]] := f40 c
theorem h33 (k x y : Int) (a b : Bool) : FnR Try.prog 15 [.I k, .agg [.I x, .B a], .agg [.I y, .B b]] [.agg [.I k, .I x, .I y, .B a, .B b]] := f33 k ⟨x, a⟩ ⟨y, b⟩
set_option maxHeartbeats 16000000 in
theorem tree29 (q : List Chg) (i : Nat) (es : List (List Int × Sum CD (List CD))) (o c : Chg) : AW Try.prog c9_34 (cutQ (ou29 q i es o c)) (in29 q i es o c) := by
  unfold in29 ou29
  have g1 := h39 c
  have g2 := h40 o
  have g3 := h33 c.key o.old c.new o.had c.has
  (repeat' (first | refine NextAt.mk (fun hc => ?_) (fun pre n v post hc hkey => ?_) | refine Sni.mk (fun hc => ?_) ?_ | refine AW_seq ?_ | refine AW_block ?_ | ((first | refine AW_reg ?_ | refine AW_cond ?_ | refine AW_skip ?_ | refine AW_exit ?_ | refine AW_ret ?_ | refine AW_regD (by kernel_rfl) ?_ | refine AW_regX (by kernel_rfl) ?_ | refine CallAtG.t (Eq.refl true) ?_ | refine CallAtG.f (Eq.refl false) ?_ | refine CallAt.mk _ (g1 ..) (by first | (intro h; cases h; done) | (intro _; repeat' (first | exact List.forall_mem_nil _ | trivial | refine List.forall_mem_cons.2 ⟨?_, ?_⟩)) | (intro _; simp [RV.flatP, CD.flatP]; done)) ?_ | refine CallAtG.mk _ (fun _ => g1 ..) ?_ | refine CallDS.mk _ (by simp [RV.data]) (fun _ => g1 ..) (by first | (intro h; cases h; done) | (intro _; repeat' (first | exact List.forall_mem_nil _ | trivial | refine List.forall_mem_cons.2 ⟨?_, ?_⟩)) | (intro _; simp [RV.flatP, CD.flatP]; done)) ?_ | refine CallAt.mk _ (g2 ..) (by first | (intro h; cases h; done) | (intro _; repeat' (first | exact List.forall_mem_nil _ | trivial | refine List.forall_mem_cons.2 ⟨?_, ?_⟩)) | (intro _; simp [RV.flatP, CD.flatP]; done)) ?_ | refine CallAtG.mk _ (fun _ => g2 ..) ?_ | refine CallDS.mk _ (by simp [RV.data]) (fun _ => g2 ..) (by first | (intro h; cases h; done) | (intro _; repeat' (first | exact List.forall_mem_nil _ | trivial | refine List.forall_mem_cons.2 ⟨?_, ?_⟩)) | (intro _; simp [RV.flatP, CD.flatP]; done)) ?_ | refine CallAt.mk _ (g3 ..) (by first | (intro h; cases h; done) | (intro _; repeat' (first | exact List.forall_mem_nil _ | trivial | refine List.forall_mem_cons.2 ⟨?_, ?_⟩)) | (intro _; simp [RV.flatP, CD.flatP]; done)) ?_ | refine CallAtG.mk _ (fun _ => g3 ..) ?_ | refine CallDS.mk _ (by simp [RV.data]) (fun _ => g3 ..) (by first | (intro h; cases h; done) | (intro _; repeat' (first | exact List.forall_mem_nil _ | trivial | refine List.forall_mem_cons.2 ⟨?_, ?_⟩)) | (intro _; simp [RV.flatP, CD.flatP]; done)) ?_); try simp (maxSteps := 5000000) (disch := omega) only [go_sem, Nat.reduceLT, Nat.reduceAdd, Nat.reduceSub, Nat.reduceMul, Nat.reduceMod, Nat.reduceDiv, Nat.reduceBEq, Nat.reduceEqDiff, Nat.reduceLeDiff, reduceCtorEq, ↓reduceIte, beq_dec, Int.reduceToNat, Int.reduceLT, Int.reduceLE, Int.reduceAdd, Int.reduceSub, Int.reduceMul, Int.reduceEq, Int.reduceNeg, Int.reduceNe, Int.toNat_natCast, IntKind.signed, IntKind.bits, Int.reducePow, Nat.reducePow]) | refine And.intro (fun hc => (?_ : AW _ _ _ _)) (fun hc => (?_ : AW _ _ _ _)) | simp (maxSteps := 5000000) (disch := omega) only [go_sem, Nat.reduceLT, Nat.reduceAdd, Nat.reduceSub, Nat.reduceMul, Nat.reduceMod, Nat.reduceDiv, Nat.reduceBEq, Nat.reduceEqDiff, Nat.reduceLeDiff, reduceCtorEq, ↓reduceIte, beq_dec, Int.reduceToNat, Int.reduceLT, Int.reduceLE, Int.reduceAdd, Int.reduceSub, Int.reduceMul, Int.reduceEq, Int.reduceNeg, Int.reduceNe, Int.toNat_natCast, IntKind.signed, IntKind.bits, Int.reducePow, Nat.reducePow] | (refine And.intro ?_ ?_; focus (first | (intros; omega) | (intros; simp_all; done))) | refine And.intro (?_ : CallAt _ _ _ _ _ _ _ _) ?_ | refine And.intro (?_ : CallAt _ _ _ _ _ _ _ _ ∧ _) ?_ | refine And.intro (?_ : _ ∧ _) ?_ | fail))
theorem x29 (q : List Chg) (i : Nat) (es : List (List Int × Sum CD (List CD))) (o c : Chg) {Q : Exit → St → Prop} {σ : St} (h : σ.le (in29 q i es o c) ∧ Q .normal (ou29 q i es o c)) (hq : MonoQ Q := by repeat first | exact MonoQ.seq | refine MonoQ.block ?_) : AW Try.prog c9_34 Q σ :=
  AW_le _ h.1 (AW_mono (tree29 q i es o c) fun e σ' hl => by
    cases e with
    | normal => exact hq σ' _ hl h.2
    | _ => exact hl.elim)
theorem insAll_len {l : List Int} (h : l.Nodup) : (insAll l).length = l.length := Nat.le_antisymm insAll_nodup_len (nodup_len h fun x hx => (insAll_mem l x).2 hx)
theorem flat_filter (f : Int → Option Chg) (K : List Int) : K.flatMap (fun k => (f k).toList) = (K.filter fun k => (f k).isSome).map fun k => (f k).getD zC := by
  induction K with
  | nil => rfl
  | cons k r ih =>
    rw [List.flatMap_cons, ih, List.filter_cons]
    cases hf : f k with
    | none => rw [if_neg (by simp)]; rfl
    | some c => rw [if_pos (by simp), List.map_cons, hf]; rfl
theorem comX_mem {p q : List Chg} {k : Int} (h : (comX p q k).isSome = true) : k ∈ comK p q := by
  unfold comK
  rw [insAll_mem, List.mem_append]
  by_cases h1 : k ∈ p.map Chg.key
  · exact .inl h1
  · by_cases h2 : k ∈ q.map Chg.key
    · exact .inr h2
    · unfold comX at h
      rw [getC_none h1, getC_none h2] at h
      cases h
theorem comT_all {p q : List Chg} (hp : validC p = true) (hq : validC q = true) (k : Int) : lookC (comT p q) k = comX p q k := by
  have := comT_look hp hq k q.length (Nat.le_refl _)
  rwa [List.take_length] at this
theorem comT_nd' {p : List Chg} (hp : validC p = true) (q : List Chg) : ((comT p q).map Prod.fst).Nodup ∧ (comT p q).length ≤ p.length + q.length := by
  have := comT_nd hp q q.length (Nat.le_refl _)
  rwa [List.take_length] at this
theorem comO_eq {p q : List Chg} (hp : validC p = true) (hq : validC q = true) : comO p q = (insAll ((comT p q).map Prod.fst)).map fun k => (lookC (comT p q) k).getD zC := by
  have hf : comX p q = lookC (comT p q) := funext fun k => (comT_all hp hq k).symm
  have hK : insAll ((comT p q).map Prod.fst) = (comK p q).filter fun k => (lookC (comT p q) k).isSome := by
    refine pw_ext (insAll_pw _) ((insAll_pw _).sublist List.filter_sublist) fun x => ?_
    rw [insAll_mem, List.mem_filter, lookC_is]
    refine ⟨fun h => ⟨?_, h⟩, fun h => h.2⟩
    have h' := lookC_is.2 h
    rw [comT_all hp hq] at h'
    exact comX_mem h'
  rw [hK]
  unfold comO
  rw [hf]
  exact flat_filter _ _
theorem comO_len {p q : List Chg} (hp : validC p = true) (hq : validC q = true) : (comO p q).length = (comT p q).length := by
  rw [comO_eq hp hq, List.length_map, insAll_len (comT_nd' hp q).1, List.length_map]
def gotL (M : CTab) (K : List Int) : List Chg := K.map fun k => (lookC M k).getD zC
theorem gotL_succ (M : CTab) (K : List Int) (i : Nat) (h : i < K.length) : gotL M (K.take (i + 1)) = gotL M (K.take i) ++ [(lookC M (nth K i)).getD zC] := by
  rw [List.take_succ_eq_append_getElem h, nth_eq K i h]
  unfold gotL
  rw [List.map_append]; rfl
set_option maxHeartbeats 8000000 in
theorem f29 (p q : List Chg) : FnR Try.prog 9 [.c (CL p), .c (CL q)] [.own 37 5 ((comL p q).map Chg.cd), .c (.I (comE p q))] := by
  by_cases hv : validC p = true ∧ validC q = true
  · obtain ⟨hp, hqv⟩ := hv
    have hpl := validC_len hp
    have hql := validC_len hqv
    have hE : comE p q = if okC p q then (if 64 < (comO p q).length then 6 else 0) else 10 := by unfold comE; rw [if_pos (by simp [hp, hqv])]
    refine fn_walk code9 (by simp) ?_
    (repeat' (first | refine NextAt.mk (fun hc => ?_) (fun pre n v post hc hkey => ?_) | refine Sni.mk (fun hc => ?_) ?_ | refine AW_seq ?_ | refine AW_block ?_ | ((first | refine AW_reg ?_ | refine AW_cond ?_ | refine AW_skip ?_ | refine AW_exit ?_ | refine AW_ret ?_ | refine AW_regD (by kernel_rfl) ?_ | refine AW_regX (by kernel_rfl) ?_ | refine CallAtG.t (Eq.refl true) ?_ | refine CallAtG.f (Eq.refl false) ?_ | refine CallAt.mk _ (f25 ..) (by first | (intro h; cases h; done) | (intro _; repeat' (first | exact List.forall_mem_nil _ | trivial | refine List.forall_mem_cons.2 ⟨?_, ?_⟩)) | (intro _; simp [RV.flatP, CD.flatP, hp, hqv]; done)) ?_ | refine CallAtG.mk _ (fun _ => f25 ..) ?_ | refine CallDS.mk _ (by simp [RV.data]) (fun _ => f25 ..) (by first | (intro h; cases h; done) | (intro _; repeat' (first | exact List.forall_mem_nil _ | trivial | refine List.forall_mem_cons.2 ⟨?_, ?_⟩)) | (intro _; simp [RV.flatP, CD.flatP, hp, hqv]; done)) ?_); try simp (disch := omega) only [go_sem, Nat.reduceLT, Nat.reduceAdd, Nat.reduceSub, Nat.reduceMul, Nat.reduceMod, Nat.reduceDiv, Nat.reduceBEq, Nat.reduceEqDiff, Nat.reduceLeDiff, reduceCtorEq, ↓reduceIte, beq_dec, Int.reduceToNat, Int.reduceLT, Int.reduceLE, Int.reduceAdd, Int.reduceSub, Int.reduceMul, Int.reduceEq, Int.reduceNeg, Int.reduceNe, Int.toNat_natCast, IntKind.signed, IntKind.bits, Int.reducePow, Nat.reducePow, hp, hqv]) | refine And.intro (fun hc => (?_ : AW _ _ _ _)) (fun hc => (?_ : AW _ _ _ _)) | simp (disch := omega) only [go_sem, Nat.reduceLT, Nat.reduceAdd, Nat.reduceSub, Nat.reduceMul, Nat.reduceMod, Nat.reduceDiv, Nat.reduceBEq, Nat.reduceEqDiff, Nat.reduceLeDiff, reduceCtorEq, ↓reduceIte, beq_dec, Int.reduceToNat, Int.reduceLT, Int.reduceLE, Int.reduceAdd, Int.reduceSub, Int.reduceMul, Int.reduceEq, Int.reduceNeg, Int.reduceNe, Int.toNat_natCast, IntKind.signed, IntKind.bits, Int.reducePow, Nat.reducePow, hp, hqv] | (refine And.intro ?_ ?_; focus (first | (intros; omega) | (intros; simp_all; done))) | refine And.intro (?_ : CallAt _ _ _ _ _ _ _ _) ?_ | refine And.intro (?_ : CallAt _ _ _ _ _ _ _ _ ∧ _) ?_ | fail))
    refine AW_loopK [1, 6, 25, 26] [8, 27, 28, 29, 30, 31, 32, 33, 34, 35] (fun i : Nat => i ≤ p.length) (fun i => [(27, .I i)]) (fun i => [(24, .map (.one .i64) (chM (chT (p.take i))))]) (fun i => p.length - i) 0 (by omega) ?_ ?_
    · simp (disch := omega) only [go_sem, Nat.reduceLT, Nat.reduceAdd, Nat.reduceSub, Nat.reduceMul, Nat.reduceMod, Nat.reduceDiv, Nat.reduceBEq, Nat.reduceEqDiff, Nat.reduceLeDiff, reduceCtorEq, ↓reduceIte, beq_dec, Int.reduceToNat, Int.reduceLT, Int.reduceLE, Int.reduceAdd, Int.reduceSub, Int.reduceMul, Int.reduceEq, Int.reduceNeg, Int.reduceNe, Int.toNat_natCast, IntKind.signed, IntKind.bits, Int.reducePow, Nat.reducePow, Int.natCast_zero, List.take_zero, chT, List.map_nil, chM]
    · intro i hi
      (repeat' (first | refine NextAt.mk (fun hc => ?_) (fun pre n v post hc hkey => ?_) | refine Sni.mk (fun hc => ?_) ?_ | refine AW_seq ?_ | refine AW_block ?_ | ((first | refine AW_reg ?_ | refine AW_cond ?_ | refine AW_skip ?_ | refine AW_exit ?_ | refine AW_ret ?_ | refine AW_regD (by kernel_rfl) ?_ | refine AW_regX (by kernel_rfl) ?_ | refine CallAtG.t (Eq.refl true) ?_ | refine CallAtG.f (Eq.refl false) ?_); try simp (disch := omega) only [go_sem, Nat.reduceLT, Nat.reduceAdd, Nat.reduceSub, Nat.reduceMul, Nat.reduceMod, Nat.reduceDiv, Nat.reduceBEq, Nat.reduceEqDiff, Nat.reduceLeDiff, reduceCtorEq, ↓reduceIte, beq_dec, Int.reduceToNat, Int.reduceLT, Int.reduceLE, Int.reduceAdd, Int.reduceSub, Int.reduceMul, Int.reduceEq, Int.reduceNeg, Int.reduceNe, Int.toNat_natCast, IntKind.signed, IntKind.bits, Int.reducePow, Nat.reducePow, getD_map Chg.cd, Chg.cd, List.map_cons, List.map_nil]) | refine And.intro (fun hc => (?_ : AW _ _ _ _)) (fun hc => (?_ : AW _ _ _ _)) | simp (disch := omega) only [go_sem, Nat.reduceLT, Nat.reduceAdd, Nat.reduceSub, Nat.reduceMul, Nat.reduceMod, Nat.reduceDiv, Nat.reduceBEq, Nat.reduceEqDiff, Nat.reduceLeDiff, reduceCtorEq, ↓reduceIte, beq_dec, Int.reduceToNat, Int.reduceLT, Int.reduceLE, Int.reduceAdd, Int.reduceSub, Int.reduceMul, Int.reduceEq, Int.reduceNeg, Int.reduceNe, Int.toNat_natCast, IntKind.signed, IntKind.bits, Int.reducePow, Nat.reducePow, getD_map Chg.cd, Chg.cd, List.map_cons, List.map_nil] | (refine And.intro ?_ ?_; focus (first | (intros; omega) | (intros; simp_all; done))) | refine And.intro (?_ : CallAt _ _ _ _ _ _ _ _) ?_ | refine And.intro (?_ : CallAt _ _ _ _ _ _ _ _ ∧ _) ?_ | fail))
      · refine .mk (i + 1) (by omega) (by omega) ?_
        have e := chM_put (nth p i).key (nth p i) (chT (p.take i))
        rw [chT_succ hp (by omega)] at e
        simp only [Chg.cd] at e
        simp (disch := omega) only [go_sem, Nat.reduceLT, Nat.reduceAdd, Nat.reduceSub, Nat.reduceMul, Nat.reduceMod, Nat.reduceDiv, Nat.reduceBEq, Nat.reduceEqDiff, Nat.reduceLeDiff, reduceCtorEq, ↓reduceIte, beq_dec, Int.reduceToNat, Int.reduceLT, Int.reduceLE, Int.reduceAdd, Int.reduceSub, Int.reduceMul, Int.reduceEq, Int.reduceNeg, Int.reduceNe, Int.toNat_natCast, IntKind.signed, IntKind.bits, Int.reducePow, Nat.reducePow, Int.natCast_add, Int.natCast_one, e]
      · have hil : i = p.length := by omega
        rw [hil, List.take_length]
        refine AW_loopK [6, 36, 37] [4, 5, 10, 11, 12, 38, 39, 40, 41, 42, 43, 44, 45, 46, 47, 48, 49, 50, 51, 52, 53, 54, 55, 56, 57, 58, 59, 60, 61, 62, 63, 64, 65, 66, 67, 68, 69, 70, 71, 72, 73, 74, 75, 76, 77, 78, 79, 80, 81] (fun i : Nat => i ≤ q.length ∧ ∀ j, j < i → okB p (nth q j) = true) (fun i => [(38, .I i)]) (fun i => [(24, .map (.one .i64) (chM (comT p (q.take i))))]) (fun i => q.length - i) 0 ⟨by omega, by omega⟩ ?_ ?_
        · simp (disch := omega) only [go_sem, Nat.reduceLT, Nat.reduceAdd, Nat.reduceSub, Nat.reduceMul, Nat.reduceMod, Nat.reduceDiv, Nat.reduceBEq, Nat.reduceEqDiff, Nat.reduceLeDiff, reduceCtorEq, ↓reduceIte, beq_dec, Int.reduceToNat, Int.reduceLT, Int.reduceLE, Int.reduceAdd, Int.reduceSub, Int.reduceMul, Int.reduceEq, Int.reduceNeg, Int.reduceNe, Int.toNat_natCast, IntKind.signed, IntKind.bits, Int.reducePow, Nat.reducePow, Int.natCast_zero, List.take_zero, comT, List.foldl_nil]
        · rintro i ⟨hi, hb⟩
          have hlk := comT_look hp hqv (nth q i).key i hi
          have hgn := fun h : i < q.length => getC_take hqv h
          have e1 := chM_look (comT p (q.take i)) (nth q i).key
          have e2 := chM_is (comT p (q.take i)) (nth q i).key
          have e3 := chM_put (nth q i).key (nth q i) (comT p (q.take i))
          have e4 := chM_del (nth q i).key (comT p (q.take i))
          simp only [Chg.cd] at e3
          have g39 := f39 (nth q i)
          have g40 := f40 (nth q i)
          have g33 := fun a b => f33 (nth q i).key a b
          simp only [Sd.av, Chg.av, Chg.aft, Chg.bef, Sd.cd, Chg.cd, List.map_cons, List.map_nil] at g39 g40
          by_cases hlt : (i : Int) < (q.length : Int)
          · have hcX : comX p (q.take i) (nth q i).key = getC p (nth q i).key := by
              unfold comX
              rw [hgn (by omega)]
            rw [hcX] at hlk
            cases hL : lookC (comT p (q.take i)) (nth q i).key with
            | none =>
              rw [hL] at e1 e2 hlk
              simp only [Option.getD_none, Option.isSome_none] at e1 e2
              (repeat' (first | refine NextAt.mk (fun hc => ?_) (fun pre n v post hc hkey => ?_) | refine Sni.mk (fun hc => ?_) ?_ | refine AW_seq ?_ | refine AW_block ?_ | ((first | refine AW_reg ?_ | refine AW_cond ?_ | refine AW_skip ?_ | refine AW_exit ?_ | refine AW_ret ?_ | refine AW_regD (by kernel_rfl) ?_ | refine AW_regX (by kernel_rfl) ?_ | refine CallAtG.t (Eq.refl true) ?_ | refine CallAtG.f (Eq.refl false) ?_); try simp (disch := omega) only [go_sem, Nat.reduceLT, Nat.reduceAdd, Nat.reduceSub, Nat.reduceMul, Nat.reduceMod, Nat.reduceDiv, Nat.reduceBEq, Nat.reduceEqDiff, Nat.reduceLeDiff, reduceCtorEq, ↓reduceIte, beq_dec, Int.reduceToNat, Int.reduceLT, Int.reduceLE, Int.reduceAdd, Int.reduceSub, Int.reduceMul, Int.reduceEq, Int.reduceNeg, Int.reduceNe, Int.toNat_natCast, IntKind.signed, IntKind.bits, Int.reducePow, Nat.reducePow, getD_map Chg.cd, Chg.cd, List.map_cons, List.map_nil, e1, e2, Chg.av, zC, hlt, decide_true]) | refine And.intro (fun hc => (?_ : AW _ _ _ _)) (fun hc => (?_ : AW _ _ _ _)) | simp (disch := omega) only [go_sem, Nat.reduceLT, Nat.reduceAdd, Nat.reduceSub, Nat.reduceMul, Nat.reduceMod, Nat.reduceDiv, Nat.reduceBEq, Nat.reduceEqDiff, Nat.reduceLeDiff, reduceCtorEq, ↓reduceIte, beq_dec, Int.reduceToNat, Int.reduceLT, Int.reduceLE, Int.reduceAdd, Int.reduceSub, Int.reduceMul, Int.reduceEq, Int.reduceNeg, Int.reduceNe, Int.toNat_natCast, IntKind.signed, IntKind.bits, Int.reducePow, Nat.reducePow, getD_map Chg.cd, Chg.cd, List.map_cons, List.map_nil, e1, e2, Chg.av, zC, hlt, decide_true] | (refine And.intro ?_ ?_; focus (first | (intros; omega) | (intros; simp_all; done))) | refine And.intro (?_ : CallAt _ _ _ _ _ _ _ _) ?_ | refine And.intro (?_ : CallAt _ _ _ _ _ _ _ _ ∧ _) ?_ | fail))
              refine .mk (i + 1) ⟨by omega, step_lt hb (by unfold okB; rw [← hlk])⟩ (by omega) ?_
              rw [comT_succ p q i (by omega)]
              unfold stepC
              rw [hL]
              simp (disch := omega) only [go_sem, Nat.reduceLT, Nat.reduceAdd, Nat.reduceSub, Nat.reduceMul, Nat.reduceMod, Nat.reduceDiv, Nat.reduceBEq, Nat.reduceEqDiff, Nat.reduceLeDiff, reduceCtorEq, ↓reduceIte, beq_dec, Int.reduceToNat, Int.reduceLT, Int.reduceLE, Int.reduceAdd, Int.reduceSub, Int.reduceMul, Int.reduceEq, Int.reduceNeg, Int.reduceNe, Int.toNat_natCast, IntKind.signed, IntKind.bits, Int.reducePow, Nat.reducePow, Int.natCast_add, Int.natCast_one, e3]
            | some o =>
              rw [hL] at e1 e2 hlk
              simp only [Option.getD_some, Option.isSome_some] at e1 e2
              have h39 := f39 o
              have h40 := f40 o
              simp only [Sd.av, Chg.av, Chg.aft, Chg.bef, Sd.cd, Chg.cd, List.map_cons, List.map_nil] at h39 h40
              have g33 := f33 (nth q i).key ⟨o.old, o.had⟩ ⟨(nth q i).new, (nth q i).has⟩
              have e5 := chM_put (nth q i).key (mkC (nth q i).key o.bef (nth q i).aft) (comT p (q.take i))
              simp only [Chg.cd, mkC, Chg.bef, Chg.aft] at e5
              simp only [Sd.av, Chg.cd, mkC] at g33
              have tx := @x29 q i (chM (comT p (q.take i))) o (nth q i)
              (repeat' (first | (with_reducible refine tx ?_; try simp (disch := omega) only [go_sem, Nat.reduceLT, Nat.reduceAdd, Nat.reduceSub, Nat.reduceMul, Nat.reduceMod, Nat.reduceDiv, Nat.reduceBEq, Nat.reduceEqDiff, Nat.reduceLeDiff, reduceCtorEq, ↓reduceIte, beq_dec, Int.reduceToNat, Int.reduceLT, Int.reduceLE, Int.reduceAdd, Int.reduceSub, Int.reduceMul, Int.reduceEq, Int.reduceNeg, Int.reduceNe, Int.toNat_natCast, IntKind.signed, IntKind.bits, Int.reducePow, Nat.reducePow, getD_map Chg.cd, Chg.cd, in29, ou29, St.le, St.le1, St.le2, List.map_cons, List.map_nil, e1, e2, e5, mkC, Chg.bef, Chg.aft, Chg.av, hlt, decide_true]) | refine NextAt.mk (fun hc => ?_) (fun pre n v post hc hkey => ?_) | refine Sni.mk (fun hc => ?_) ?_ | refine AW_seq ?_ | refine AW_block ?_ | ((first | refine AW_reg ?_ | refine AW_cond ?_ | refine AW_skip ?_ | refine AW_exit ?_ | refine AW_ret ?_ | refine AW_regD (by kernel_rfl) ?_ | refine AW_regX (by kernel_rfl) ?_ | refine CallAtG.t (Eq.refl true) ?_ | refine CallAtG.f (Eq.refl false) ?_ | refine CallAt.mk _ (g39 ..) (by first | (intro h; cases h; done) | (intro _; repeat' (first | exact List.forall_mem_nil _ | trivial | refine List.forall_mem_cons.2 ⟨?_, ?_⟩)) | (intro _; simp [RV.flatP, CD.flatP, getD_map Chg.cd, Chg.cd, in29, ou29, St.le, St.le1, St.le2, List.map_cons, List.map_nil, e1, e2, e5, mkC, Chg.bef, Chg.aft, Chg.av, hlt, decide_true]; done)) ?_ | refine CallAtG.mk _ (fun _ => g39 ..) ?_ | refine CallDS.mk _ (by simp [RV.data]) (fun _ => g39 ..) (by first | (intro h; cases h; done) | (intro _; repeat' (first | exact List.forall_mem_nil _ | trivial | refine List.forall_mem_cons.2 ⟨?_, ?_⟩)) | (intro _; simp [RV.flatP, CD.flatP, getD_map Chg.cd, Chg.cd, in29, ou29, St.le, St.le1, St.le2, List.map_cons, List.map_nil, e1, e2, e5, mkC, Chg.bef, Chg.aft, Chg.av, hlt, decide_true]; done)) ?_ | refine CallAt.mk _ (g40 ..) (by first | (intro h; cases h; done) | (intro _; repeat' (first | exact List.forall_mem_nil _ | trivial | refine List.forall_mem_cons.2 ⟨?_, ?_⟩)) | (intro _; simp [RV.flatP, CD.flatP, getD_map Chg.cd, Chg.cd, in29, ou29, St.le, St.le1, St.le2, List.map_cons, List.map_nil, e1, e2, e5, mkC, Chg.bef, Chg.aft, Chg.av, hlt, decide_true]; done)) ?_ | refine CallAtG.mk _ (fun _ => g40 ..) ?_ | refine CallDS.mk _ (by simp [RV.data]) (fun _ => g40 ..) (by first | (intro h; cases h; done) | (intro _; repeat' (first | exact List.forall_mem_nil _ | trivial | refine List.forall_mem_cons.2 ⟨?_, ?_⟩)) | (intro _; simp [RV.flatP, CD.flatP, getD_map Chg.cd, Chg.cd, in29, ou29, St.le, St.le1, St.le2, List.map_cons, List.map_nil, e1, e2, e5, mkC, Chg.bef, Chg.aft, Chg.av, hlt, decide_true]; done)) ?_ | refine CallAt.mk _ (h39 ..) (by first | (intro h; cases h; done) | (intro _; repeat' (first | exact List.forall_mem_nil _ | trivial | refine List.forall_mem_cons.2 ⟨?_, ?_⟩)) | (intro _; simp [RV.flatP, CD.flatP, getD_map Chg.cd, Chg.cd, in29, ou29, St.le, St.le1, St.le2, List.map_cons, List.map_nil, e1, e2, e5, mkC, Chg.bef, Chg.aft, Chg.av, hlt, decide_true]; done)) ?_ | refine CallAtG.mk _ (fun _ => h39 ..) ?_ | refine CallDS.mk _ (by simp [RV.data]) (fun _ => h39 ..) (by first | (intro h; cases h; done) | (intro _; repeat' (first | exact List.forall_mem_nil _ | trivial | refine List.forall_mem_cons.2 ⟨?_, ?_⟩)) | (intro _; simp [RV.flatP, CD.flatP, getD_map Chg.cd, Chg.cd, in29, ou29, St.le, St.le1, St.le2, List.map_cons, List.map_nil, e1, e2, e5, mkC, Chg.bef, Chg.aft, Chg.av, hlt, decide_true]; done)) ?_ | refine CallAt.mk _ (h40 ..) (by first | (intro h; cases h; done) | (intro _; repeat' (first | exact List.forall_mem_nil _ | trivial | refine List.forall_mem_cons.2 ⟨?_, ?_⟩)) | (intro _; simp [RV.flatP, CD.flatP, getD_map Chg.cd, Chg.cd, in29, ou29, St.le, St.le1, St.le2, List.map_cons, List.map_nil, e1, e2, e5, mkC, Chg.bef, Chg.aft, Chg.av, hlt, decide_true]; done)) ?_ | refine CallAtG.mk _ (fun _ => h40 ..) ?_ | refine CallDS.mk _ (by simp [RV.data]) (fun _ => h40 ..) (by first | (intro h; cases h; done) | (intro _; repeat' (first | exact List.forall_mem_nil _ | trivial | refine List.forall_mem_cons.2 ⟨?_, ?_⟩)) | (intro _; simp [RV.flatP, CD.flatP, getD_map Chg.cd, Chg.cd, in29, ou29, St.le, St.le1, St.le2, List.map_cons, List.map_nil, e1, e2, e5, mkC, Chg.bef, Chg.aft, Chg.av, hlt, decide_true]; done)) ?_ | refine CallAt.mk _ (g33 ..) (by first | (intro h; cases h; done) | (intro _; repeat' (first | exact List.forall_mem_nil _ | trivial | refine List.forall_mem_cons.2 ⟨?_, ?_⟩)) | (intro _; simp [RV.flatP, CD.flatP, getD_map Chg.cd, Chg.cd, in29, ou29, St.le, St.le1, St.le2, List.map_cons, List.map_nil, e1, e2, e5, mkC, Chg.bef, Chg.aft, Chg.av, hlt, decide_true]; done)) ?_ | refine CallAtG.mk _ (fun _ => g33 ..) ?_ | refine CallDS.mk _ (by simp [RV.data]) (fun _ => g33 ..) (by first | (intro h; cases h; done) | (intro _; repeat' (first | exact List.forall_mem_nil _ | trivial | refine List.forall_mem_cons.2 ⟨?_, ?_⟩)) | (intro _; simp [RV.flatP, CD.flatP, getD_map Chg.cd, Chg.cd, in29, ou29, St.le, St.le1, St.le2, List.map_cons, List.map_nil, e1, e2, e5, mkC, Chg.bef, Chg.aft, Chg.av, hlt, decide_true]; done)) ?_); try simp (disch := omega) only [go_sem, Nat.reduceLT, Nat.reduceAdd, Nat.reduceSub, Nat.reduceMul, Nat.reduceMod, Nat.reduceDiv, Nat.reduceBEq, Nat.reduceEqDiff, Nat.reduceLeDiff, reduceCtorEq, ↓reduceIte, beq_dec, Int.reduceToNat, Int.reduceLT, Int.reduceLE, Int.reduceAdd, Int.reduceSub, Int.reduceMul, Int.reduceEq, Int.reduceNeg, Int.reduceNe, Int.toNat_natCast, IntKind.signed, IntKind.bits, Int.reducePow, Nat.reducePow, getD_map Chg.cd, Chg.cd, in29, ou29, St.le, St.le1, St.le2, List.map_cons, List.map_nil, e1, e2, e5, mkC, Chg.bef, Chg.aft, Chg.av, hlt, decide_true]) | refine And.intro (fun hc => (?_ : AW _ _ _ _)) (fun hc => (?_ : AW _ _ _ _)) | simp (disch := omega) only [go_sem, Nat.reduceLT, Nat.reduceAdd, Nat.reduceSub, Nat.reduceMul, Nat.reduceMod, Nat.reduceDiv, Nat.reduceBEq, Nat.reduceEqDiff, Nat.reduceLeDiff, reduceCtorEq, ↓reduceIte, beq_dec, Int.reduceToNat, Int.reduceLT, Int.reduceLE, Int.reduceAdd, Int.reduceSub, Int.reduceMul, Int.reduceEq, Int.reduceNeg, Int.reduceNe, Int.toNat_natCast, IntKind.signed, IntKind.bits, Int.reducePow, Nat.reducePow, getD_map Chg.cd, Chg.cd, in29, ou29, St.le, St.le1, St.le2, List.map_cons, List.map_nil, e1, e2, e5, mkC, Chg.bef, Chg.aft, Chg.av, hlt, decide_true] | (refine And.intro ?_ ?_; focus (first | (intros; omega) | (intros; simp_all; done))) | refine And.intro (?_ : CallAt _ _ _ _ _ _ _ _) ?_ | refine And.intro (?_ : CallAt _ _ _ _ _ _ _ _ ∧ _) ?_ | refine And.intro (?_ : _ ∧ _) ?_ | fail))
              all_goals try omega
              · have hn : okC p q = false := by
                  unfold okC
                  rw [decide_eq_false_iff_not]
                  intro h
                  have hi' := h i (by omega)
                  unfold okB at hi'
                  rw [← hlk] at hi'
                  have hi'' := (sd_eq o.aft (nth q i).bef).1 (of_decide_eq_true hi')
                  rcases hc with hc | hc
                  · exact hc hi''.1
                  · have h2 : (o.has == (nth q i).had) = true := hi''.2
                    rw [h2] at hc; cases hc
                have he : comE p q = 10 := by rw [hE, hn]; rfl
                have hL : comL p q = [] := by unfold comL; rw [he]; rfl
                rw [hL, he]
                exact ⟨rfl, rfl⟩
              · have hok : okB p (nth q i) = true := by
                  unfold okB; rw [← hlk]
                  refine decide_eq_true ((sd_eq o.aft (nth q i).bef).2 (by assumption))
                have hba : o.bef = (nth q i).aft := (sd_eq o.bef (nth q i).aft).2 (by assumption)
                refine .mk (i + 1) ⟨by omega, step_lt hb hok⟩ (by omega) ?_
                rw [comT_succ p q i (by omega)]
                unfold stepC
                rw [hL]
                simp only [hba, if_true]
                simp (disch := omega) only [go_sem, Nat.reduceLT, Nat.reduceAdd, Nat.reduceSub, Nat.reduceMul, Nat.reduceMod, Nat.reduceDiv, Nat.reduceBEq, Nat.reduceEqDiff, Nat.reduceLeDiff, reduceCtorEq, ↓reduceIte, beq_dec, Int.reduceToNat, Int.reduceLT, Int.reduceLE, Int.reduceAdd, Int.reduceSub, Int.reduceMul, Int.reduceEq, Int.reduceNeg, Int.reduceNe, Int.toNat_natCast, IntKind.signed, IntKind.bits, Int.reducePow, Nat.reducePow, Int.natCast_add, Int.natCast_one, e4]
              · have hok : okB p (nth q i) = true := by
                  unfold okB; rw [← hlk]
                  refine decide_eq_true ((sd_eq o.aft (nth q i).bef).2 (by assumption))
                have hba : ¬ o.bef = (nth q i).aft := (sd_ne o.bef (nth q i).aft).2 (by assumption)
                refine .mk (i + 1) ⟨by omega, step_lt hb hok⟩ (by omega) ?_
                rw [comT_succ p q i (by omega)]
                unfold stepC
                rw [hL]
                simp only [hba, if_false]
                simp (disch := omega) only [go_sem, Nat.reduceLT, Nat.reduceAdd, Nat.reduceSub, Nat.reduceMul, Nat.reduceMod, Nat.reduceDiv, Nat.reduceBEq, Nat.reduceEqDiff, Nat.reduceLeDiff, reduceCtorEq, ↓reduceIte, beq_dec, Int.reduceToNat, Int.reduceLT, Int.reduceLE, Int.reduceAdd, Int.reduceSub, Int.reduceMul, Int.reduceEq, Int.reduceNeg, Int.reduceNe, Int.toNat_natCast, IntKind.signed, IntKind.bits, Int.reducePow, Nat.reducePow, Int.natCast_add, Int.natCast_one, mkC, Chg.bef, Chg.aft]
          · have hil : i = q.length := by omega
            (repeat' (first | refine NextAt.mk (fun hc => ?_) (fun pre n v post hc hkey => ?_) | refine Sni.mk (fun hc => ?_) ?_ | refine AW_seq ?_ | refine AW_block ?_ | ((first | refine AW_reg ?_ | refine AW_cond ?_ | refine AW_skip ?_ | refine AW_exit ?_ | refine AW_ret ?_ | refine AW_regD (by kernel_rfl) ?_ | refine AW_regX (by kernel_rfl) ?_ | refine CallAtG.t (Eq.refl true) ?_ | refine CallAtG.f (Eq.refl false) ?_); try simp (disch := omega) only [go_sem, Nat.reduceLT, Nat.reduceAdd, Nat.reduceSub, Nat.reduceMul, Nat.reduceMod, Nat.reduceDiv, Nat.reduceBEq, Nat.reduceEqDiff, Nat.reduceLeDiff, reduceCtorEq, ↓reduceIte, beq_dec, Int.reduceToNat, Int.reduceLT, Int.reduceLE, Int.reduceAdd, Int.reduceSub, Int.reduceMul, Int.reduceEq, Int.reduceNeg, Int.reduceNe, Int.toNat_natCast, IntKind.signed, IntKind.bits, Int.reducePow, Nat.reducePow, hlt, decide_false]) | refine And.intro (fun hc => (?_ : AW _ _ _ _)) (fun hc => (?_ : AW _ _ _ _)) | simp (disch := omega) only [go_sem, Nat.reduceLT, Nat.reduceAdd, Nat.reduceSub, Nat.reduceMul, Nat.reduceMod, Nat.reduceDiv, Nat.reduceBEq, Nat.reduceEqDiff, Nat.reduceLeDiff, reduceCtorEq, ↓reduceIte, beq_dec, Int.reduceToNat, Int.reduceLT, Int.reduceLE, Int.reduceAdd, Int.reduceSub, Int.reduceMul, Int.reduceEq, Int.reduceNeg, Int.reduceNe, Int.toNat_natCast, IntKind.signed, IntKind.bits, Int.reducePow, Nat.reducePow, hlt, decide_false] | (refine And.intro ?_ ?_; focus (first | (intros; omega) | (intros; simp_all; done))) | refine And.intro (?_ : CallAt _ _ _ _ _ _ _ _) ?_ | refine And.intro (?_ : CallAt _ _ _ _ _ _ _ _ ∧ _) ?_ | fail))
            have hok : okC p q = true := by
              unfold okC
              rw [decide_eq_true_eq]
              exact fun j hj => hb j (by omega)
            rw [hok, if_pos rfl] at hE
            rw [hil, List.take_length]
            obtain ⟨hnd, hml⟩ := comT_nd' hp q
            have hOl := comO_len hp hqv
            have hOe := comO_eq hp hqv
            refine ⟨by rw [chM_len]; simp only [maxLen]; omega, ?_⟩
            (repeat' (first | refine NextAt.mk (fun hc => ?_) (fun pre n v post hc hkey => ?_) | refine Sni.mk (fun hc => ?_) ?_ | refine AW_seq ?_ | refine AW_block ?_ | ((first | refine AW_reg ?_ | refine AW_cond ?_ | refine AW_skip ?_ | refine AW_exit ?_ | refine AW_ret ?_ | refine AW_regD (by kernel_rfl) ?_ | refine AW_regX (by kernel_rfl) ?_ | refine CallAtG.t (Eq.refl true) ?_ | refine CallAtG.f (Eq.refl false) ?_); try simp (disch := omega) only [go_sem, Nat.reduceLT, Nat.reduceAdd, Nat.reduceSub, Nat.reduceMul, Nat.reduceMod, Nat.reduceDiv, Nat.reduceBEq, Nat.reduceEqDiff, Nat.reduceLeDiff, reduceCtorEq, ↓reduceIte, beq_dec, Int.reduceToNat, Int.reduceLT, Int.reduceLE, Int.reduceAdd, Int.reduceSub, Int.reduceMul, Int.reduceEq, Int.reduceNeg, Int.reduceNe, Int.toNat_natCast, IntKind.signed, IntKind.bits, Int.reducePow, Nat.reducePow, chM_len]) | refine And.intro (fun hc => (?_ : AW _ _ _ _)) (fun hc => (?_ : AW _ _ _ _)) | simp (disch := omega) only [go_sem, Nat.reduceLT, Nat.reduceAdd, Nat.reduceSub, Nat.reduceMul, Nat.reduceMod, Nat.reduceDiv, Nat.reduceBEq, Nat.reduceEqDiff, Nat.reduceLeDiff, reduceCtorEq, ↓reduceIte, beq_dec, Int.reduceToNat, Int.reduceLT, Int.reduceLE, Int.reduceAdd, Int.reduceSub, Int.reduceMul, Int.reduceEq, Int.reduceNeg, Int.reduceNe, Int.toNat_natCast, IntKind.signed, IntKind.bits, Int.reducePow, Nat.reducePow, chM_len] | (refine And.intro ?_ ?_; focus (first | (intros; omega) | (intros; simp_all; done))) | refine And.intro (?_ : CallAt _ _ _ _ _ _ _ _) ?_ | refine And.intro (?_ : CallAt _ _ _ _ _ _ _ _ ∧ _) ?_ | fail))
            · have he : comE p q = 6 := by rw [hE, if_pos (by omega)]
              have hL : comL p q = [] := by unfold comL; rw [he]; rfl
              rw [hL, he]
              exact ⟨rfl, rfl⟩
            · have he : comE p q = 0 := by rw [hE, if_neg (by omega)]
              have hL : comL p q = comO p q := by unfold comL; rw [he]; rfl
              rw [hL, he, hOe]
              generalize comT p q = M at *
              have g := s53 86 (chM M) (chM_nd hnd) (by rw [chM_len]; omega)
              rw [sortK_eq (l := M.map Prod.fst) (by rw [chM_keys]; exact hnd) (by rw [chM_keys]; exact fun x => Iff.rfl)] at g
              have hKl : (insAll (M.map Prod.fst)).length ≤ 1000 := Nat.le_trans insAll_nodup_len (by rw [List.length_map]; omega)
              have hKl' : (insAll (M.map Prod.fst)).length ≤ 2 ^ 63 - 1 := by omega
              refine CallAt.frz [24] ?_
              simp (disch := omega) only [go_sem, Nat.reduceLT, Nat.reduceAdd, Nat.reduceSub, Nat.reduceMul, Nat.reduceMod, Nat.reduceDiv, Nat.reduceBEq, Nat.reduceEqDiff, Nat.reduceLeDiff, reduceCtorEq, ↓reduceIte, beq_dec, Int.reduceToNat, Int.reduceLT, Int.reduceLE, Int.reduceAdd, Int.reduceSub, Int.reduceMul, Int.reduceEq, Int.reduceNeg, Int.reduceNe, Int.toNat_natCast, IntKind.signed, IntKind.bits, Int.reducePow, Nat.reducePow]
              refine CallAt.fb _ _ _ (k48 (chM M)) (by rfl) (one_mp _ _) ?_
              (repeat' (first | refine NextAt.mk (fun hc => ?_) (fun pre n v post hc hkey => ?_) | refine Sni.mk (fun hc => ?_) ?_ | refine AW_seq ?_ | refine AW_block ?_ | ((first | refine AW_reg ?_ | refine AW_cond ?_ | refine AW_skip ?_ | refine AW_exit ?_ | refine AW_ret ?_ | refine AW_regD (by kernel_rfl) ?_ | refine AW_regX (by kernel_rfl) ?_ | refine CallAt.mkW (g ..) (by rfl) (by simp (disch := omega) only [go_sem, Nat.reduceLT, Nat.reduceAdd, Nat.reduceSub, Nat.reduceMul, Nat.reduceMod, Nat.reduceDiv, Nat.reduceBEq, Nat.reduceEqDiff, Nat.reduceLeDiff, reduceCtorEq, ↓reduceIte, beq_dec, Int.reduceToNat, Int.reduceLT, Int.reduceLE, Int.reduceAdd, Int.reduceSub, Int.reduceMul, Int.reduceEq, Int.reduceNeg, Int.reduceNe, Int.toNat_natCast, IntKind.signed, IntKind.bits, Int.reducePow, Nat.reducePow, maxLen]) (by rfl) (by rfl) (by first | (intro h; cases h; done) | (intro _; simp [RV.flatP, CD.flatP, flatOb, AO.flatP, maxLen]; done)) ?_ | refine CallAtG.t (Eq.refl true) ?_ | refine CallAtG.f (Eq.refl false) ?_); try simp (disch := omega) only [go_sem, Nat.reduceLT, Nat.reduceAdd, Nat.reduceSub, Nat.reduceMul, Nat.reduceMod, Nat.reduceDiv, Nat.reduceBEq, Nat.reduceEqDiff, Nat.reduceLeDiff, reduceCtorEq, ↓reduceIte, beq_dec, Int.reduceToNat, Int.reduceLT, Int.reduceLE, Int.reduceAdd, Int.reduceSub, Int.reduceMul, Int.reduceEq, Int.reduceNeg, Int.reduceNe, Int.toNat_natCast, IntKind.signed, IntKind.bits, Int.reducePow, Nat.reducePow, maxLen]) | refine And.intro (fun hc => (?_ : AW _ _ _ _)) (fun hc => (?_ : AW _ _ _ _)) | simp (disch := omega) only [go_sem, Nat.reduceLT, Nat.reduceAdd, Nat.reduceSub, Nat.reduceMul, Nat.reduceMod, Nat.reduceDiv, Nat.reduceBEq, Nat.reduceEqDiff, Nat.reduceLeDiff, reduceCtorEq, ↓reduceIte, beq_dec, Int.reduceToNat, Int.reduceLT, Int.reduceLE, Int.reduceAdd, Int.reduceSub, Int.reduceMul, Int.reduceEq, Int.reduceNeg, Int.reduceNe, Int.toNat_natCast, IntKind.signed, IntKind.bits, Int.reducePow, Nat.reducePow, maxLen] | (refine And.intro ?_ ?_; focus (first | (intros; omega) | (intros; simp_all; done))) | refine And.intro (?_ : CallAt _ _ _ _ _ _ _ _) ?_ | refine And.intro (?_ : CallAt _ _ _ _ _ _ _ _ ∧ _) ?_ | fail))
              change AW _ _ (blockQ _ (seqQ _ _ (retQ _ [.own 37 5 ((gotL M (insAll (M.map Prod.fst))).map Chg.cd), _]))) _
              generalize insAll (M.map Prod.fst) = K at hKl hKl' ⊢
              refine AW_nil 13 900 37 5 (by rfl) ?_
              refine AW_loopK [6, 87, 88] [13, 15, 89, 90, 91, 92, 93, 94, 95, 96, 97, 98, 99] (fun i : Nat => i ≤ K.length) (fun i => [(13, .own 900), (89, .I i)]) (fun i => [(900, .arr 37 5 ((gotL M (K.take i)).map Chg.cd))]) (fun i => K.length - i) 0 (by omega) ?_ ?_
              · simp (disch := omega) only [go_sem, Nat.reduceLT, Nat.reduceAdd, Nat.reduceSub, Nat.reduceMul, Nat.reduceMod, Nat.reduceDiv, Nat.reduceBEq, Nat.reduceEqDiff, Nat.reduceLeDiff, reduceCtorEq, ↓reduceIte, beq_dec, Int.reduceToNat, Int.reduceLT, Int.reduceLE, Int.reduceAdd, Int.reduceSub, Int.reduceMul, Int.reduceEq, Int.reduceNeg, Int.reduceNe, Int.toNat_natCast, IntKind.signed, IntKind.bits, Int.reducePow, Nat.reducePow, Int.natCast_zero, List.take_zero, gotL, List.map_nil]
              · intro k hk
                have hb2 : (K.take k).length ≤ K.length := by simp; omega
                have hb3 : (gotL M (K.take k)).length = (K.take k).length := by simp [gotL]
                (repeat' (first | refine NextAt.mk (fun hc => ?_) (fun pre n v post hc hkey => ?_) | refine Sni.mk (fun hc => ?_) ?_ | refine AW_seq ?_ | refine AW_block ?_ | ((first | refine AW_reg ?_ | refine AW_cond ?_ | refine AW_skip ?_ | refine AW_exit ?_ | refine AW_ret ?_ | refine AW_regD (by kernel_rfl) ?_ | refine AW_regX (by kernel_rfl) ?_ | refine CallAtG.t (Eq.refl true) ?_ | refine CallAtG.f (Eq.refl false) ?_); try simp (disch := omega) only [go_sem, Nat.reduceLT, Nat.reduceAdd, Nat.reduceSub, Nat.reduceMul, Nat.reduceMod, Nat.reduceDiv, Nat.reduceBEq, Nat.reduceEqDiff, Nat.reduceLeDiff, reduceCtorEq, ↓reduceIte, beq_dec, Int.reduceToNat, Int.reduceLT, Int.reduceLE, Int.reduceAdd, Int.reduceSub, Int.reduceMul, Int.reduceEq, Int.reduceNeg, Int.reduceNe, Int.toNat_natCast, IntKind.signed, IntKind.bits, Int.reducePow, Nat.reducePow, getD_map (fun x : Int => [CD.I x]), chM_look, List.length_append, List.length_map, maxLen]) | refine And.intro (fun hc => (?_ : AW _ _ _ _)) (fun hc => (?_ : AW _ _ _ _)) | simp (disch := omega) only [go_sem, Nat.reduceLT, Nat.reduceAdd, Nat.reduceSub, Nat.reduceMul, Nat.reduceMod, Nat.reduceDiv, Nat.reduceBEq, Nat.reduceEqDiff, Nat.reduceLeDiff, reduceCtorEq, ↓reduceIte, beq_dec, Int.reduceToNat, Int.reduceLT, Int.reduceLE, Int.reduceAdd, Int.reduceSub, Int.reduceMul, Int.reduceEq, Int.reduceNeg, Int.reduceNe, Int.toNat_natCast, IntKind.signed, IntKind.bits, Int.reducePow, Nat.reducePow, getD_map (fun x : Int => [CD.I x]), chM_look, List.length_append, List.length_map, maxLen] | (refine And.intro ?_ ?_; focus (first | (intros; omega) | (intros; simp_all; done))) | refine And.intro (?_ : CallAt _ _ _ _ _ _ _ _) ?_ | refine And.intro (?_ : CallAt _ _ _ _ _ _ _ _ ∧ _) ?_ | fail))
                · refine .mk (k + 1) (by omega) (by omega) ?_
                  rw [gotL_succ M K k (by omega), List.map_append]
                  simp (disch := omega) only [go_sem, Nat.reduceLT, Nat.reduceAdd, Nat.reduceSub, Nat.reduceMul, Nat.reduceMod, Nat.reduceDiv, Nat.reduceBEq, Nat.reduceEqDiff, Nat.reduceLeDiff, reduceCtorEq, ↓reduceIte, beq_dec, Int.reduceToNat, Int.reduceLT, Int.reduceLE, Int.reduceAdd, Int.reduceSub, Int.reduceMul, Int.reduceEq, Int.reduceNeg, Int.reduceNe, Int.toNat_natCast, IntKind.signed, IntKind.bits, Int.reducePow, Nat.reducePow, Int.natCast_add, Int.natCast_one, Chg.cd, List.map_cons, List.map_nil]
                · have hke : k = K.length := by omega
                  rw [hke, List.take_length]
  · have hE : comE p q = 1 := by
      unfold comE
      rw [if_neg]
      simpa using hv
    have hL : comL p q = [] := by unfold comL; rw [hE]; rfl
    rw [hE, hL]
    refine fn_walk code9 (by simp) ?_
    (repeat' (first | refine NextAt.mk (fun hc => ?_) (fun pre n v post hc hkey => ?_) | refine Sni.mk (fun hc => ?_) ?_ | refine AW_seq ?_ | refine AW_block ?_ | ((first | refine AW_reg ?_ | refine AW_cond ?_ | refine AW_skip ?_ | refine AW_exit ?_ | refine AW_ret ?_ | refine AW_regD (by kernel_rfl) ?_ | refine AW_regX (by kernel_rfl) ?_ | refine CallAtG.t (Eq.refl true) ?_ | refine CallAtG.f (Eq.refl false) ?_ | refine CallAt.mk _ (f25 ..) (by first | (intro h; cases h; done) | (intro _; repeat' (first | exact List.forall_mem_nil _ | trivial | refine List.forall_mem_cons.2 ⟨?_, ?_⟩)) | (intro _; simp [RV.flatP, CD.flatP]; done)) ?_ | refine CallAtG.mk _ (fun _ => f25 ..) ?_ | refine CallDS.mk _ (by simp [RV.data]) (fun _ => f25 ..) (by first | (intro h; cases h; done) | (intro _; repeat' (first | exact List.forall_mem_nil _ | trivial | refine List.forall_mem_cons.2 ⟨?_, ?_⟩)) | (intro _; simp [RV.flatP, CD.flatP]; done)) ?_); try simp (disch := omega) only [go_sem, Nat.reduceLT, Nat.reduceAdd, Nat.reduceSub, Nat.reduceMul, Nat.reduceMod, Nat.reduceDiv, Nat.reduceBEq, Nat.reduceEqDiff, Nat.reduceLeDiff, reduceCtorEq, ↓reduceIte, beq_dec, Int.reduceToNat, Int.reduceLT, Int.reduceLE, Int.reduceAdd, Int.reduceSub, Int.reduceMul, Int.reduceEq, Int.reduceNeg, Int.reduceNe, Int.toNat_natCast, IntKind.signed, IntKind.bits, Int.reducePow, Nat.reducePow]) | refine And.intro (fun hc => (?_ : AW _ _ _ _)) (fun hc => (?_ : AW _ _ _ _)) | simp (disch := omega) only [go_sem, Nat.reduceLT, Nat.reduceAdd, Nat.reduceSub, Nat.reduceMul, Nat.reduceMod, Nat.reduceDiv, Nat.reduceBEq, Nat.reduceEqDiff, Nat.reduceLeDiff, reduceCtorEq, ↓reduceIte, beq_dec, Int.reduceToNat, Int.reduceLT, Int.reduceLE, Int.reduceAdd, Int.reduceSub, Int.reduceMul, Int.reduceEq, Int.reduceNeg, Int.reduceNe, Int.toNat_natCast, IntKind.signed, IntKind.bits, Int.reducePow, Nat.reducePow] | (refine And.intro ?_ ?_; focus (first | (intros; omega) | (intros; simp_all; done))) | refine And.intro (?_ : CallAt _ _ _ _ _ _ _ _) ?_ | refine And.intro (?_ : CallAt _ _ _ _ _ _ _ _ ∧ _) ?_ | fail))
    all_goals (exfalso; exact hv ⟨by simp_all, by simp_all⟩)
end Go.Proofs.Ythpnplebcmijnaa

