/-
  Lemmas for the proof: no statement of its own.
-/
import Derived.Test.YtgldpbghbkoolaaWalkG
import Derived.Test.YtgldpbghbkoolaaPlainD
set_option linter.unusedVariables false
set_option linter.unusedSimpArgs false
-- P p_15.txt
open Go Go.AL Go.RowKit
namespace Go.Proofs.Ytgldpbghbkoolaa
set_option maxRecDepth 20000
structure Wf where
  (f : Nat) (fl : List Int) (v : Int) (more : Bool)
set_option maxHeartbeats 4000000 in
theorem n38 (l : List Die) (ls : List Lk) (out : List Int) (a b : Nat) (hn : l.length ≤ 70) (hen : Ends l ls) (ha : a < l.length) (hb : b < l.length) (hab : a ≠ b) (hel : ls.length ≤ 70) :
    FnR Try.prog 38 [.c (DL l), .c (LL ls), .c (Row out), .I a, .I b] [.c (.I (mfl (esD l ls) l.length (goneL ls out) a b))] := by
  have g59 := fun u v hf => n59 l ls u out a b v hn hen ha hb hab hel hf
  have he := esD_lt hen
  have hml := esD_len l ls
  generalize hfin : mfl (esD l ls) l.length (goneL ls out) a b = fin
  unfold mfl at hfin
  generalize esD l ls = es at *
  generalize goneL ls out = gone at *
  refine fn_walk code38 (by simp) ?_
  (repeat' (first | refine NextAt.mk (fun hc => ?_) (fun pre n v post hc hkey => ?_) | refine Sni.mk (fun hc => ?_) ?_ | refine Both.mk ?_ ?_ | refine AW_seq ?_ | refine AW_block ?_ | ((first | refine AW_reg ?_ | refine AW_cond ?_ | refine AW_skip ?_ | refine AW_exit ?_ | refine AW_ret ?_ | refine AW_regD (by kernel_rfl) ?_ | refine AW_regX (by kernel_rfl) ?_ | refine CallAtG.t (Eq.refl true) ?_ | refine CallAtG.f (Eq.refl false) ?_); try simp (disch := omega) only [go_sem, seval, reduceCtorEq, ↓reduceIte, beq_dec, Int.toNat_natCast, IntKind.signed, IntKind.bits, maxLen, List.length_map, hml]) | refine And.intro (fun hc => (?_ : AW _ _ _ _)) (fun hc => (?_ : AW _ _ _ _)) | simp (disch := omega) only [go_sem, seval, reduceCtorEq, ↓reduceIte, beq_dec, Int.toNat_natCast, IntKind.signed, IntKind.bits, maxLen, List.length_map, hml] | (refine And.intro ?_ ?_; focus (first | (intros; omega) | (intros; simp_all; done))) | refine And.intro (?_ : CallAt _ _ _ _ _ _ _ _) ?_ | refine And.intro (?_ : CallAt _ _ _ _ _ _ _ _ ∧ _) ?_ | refine And.intro (?_ : AW _ _ _ _) ?_ | fail))
  refine AW_frz [16] ?_
  simp (disch := omega) only [go_sem, seval, reduceCtorEq, ↓reduceIte, beq_dec, Int.toNat_natCast, IntKind.signed, IntKind.bits]
  refine AW_loopK [0, 1, 2, 3, 4] [11, 12, 13, 17, 18, 19, 20, 21, 22, 23, 24, 25, 26, 27, 28, 29, 30] (fun w : Wf => 0 ≤ w.v ∧ w.v ≤ es.length ∧ (w.more = true → IsFl es gone a b w.fl w.v ∧ pthN es l.length a b gone w.f w.fl w.v = fin ∧ (es.length : Int) < w.f + w.v) ∧ (w.more = false → w.v = fin)) (fun w => [(13, .B w.more), (12, .I w.v), (11, .c (Row w.fl))]) (fun _ => []) (fun w => if w.more then w.f + 1 else 0) ⟨es.length + 1, List.replicate es.length 0, 0, true⟩ ⟨by simp only []; omega, by simp only []; omega, fun _ => ⟨fl_zero es gone a b, hfin, by simp only []; omega⟩, fun h => by cases h⟩ ?_ ?_
  · simp (disch := omega) only [go_sem, seval, reduceCtorEq, ↓reduceIte, beq_dec, Int.toNat_natCast, IntKind.signed, IntKind.bits, List.map_replicate, hml]
    simp
  · rintro ⟨f, fl, v, more⟩ ⟨h0, h00, h1, h2⟩
    simp only at h0 h00 h1 h2
    cases more with
    | false =>
      have h2 := h2 rfl
      subst h2
      (repeat' (first | refine NextAt.mk (fun hc => ?_) (fun pre n v post hc hkey => ?_) | refine Sni.mk (fun hc => ?_) ?_ | refine Both.mk ?_ ?_ | refine AW_seq ?_ | refine AW_block ?_ | ((first | refine AW_reg ?_ | refine AW_cond ?_ | refine AW_skip ?_ | refine AW_exit ?_ | refine AW_ret ?_ | refine AW_regD (by kernel_rfl) ?_ | refine AW_regX (by kernel_rfl) ?_ | refine CallAtG.t (Eq.refl true) ?_ | refine CallAtG.f (Eq.refl false) ?_); try simp (disch := omega) only [go_sem, seval, reduceCtorEq, ↓reduceIte, beq_dec, Int.toNat_natCast, IntKind.signed, IntKind.bits]) | refine And.intro (fun hc => (?_ : AW _ _ _ _)) (fun hc => (?_ : AW _ _ _ _)) | simp (disch := omega) only [go_sem, seval, reduceCtorEq, ↓reduceIte, beq_dec, Int.toNat_natCast, IntKind.signed, IntKind.bits] | (refine And.intro ?_ ?_; focus (first | (intros; omega) | (intros; simp_all; done))) | refine And.intro (?_ : CallAt _ _ _ _ _ _ _ _) ?_ | refine And.intro (?_ : CallAt _ _ _ _ _ _ _ _ ∧ _) ?_ | refine And.intro (?_ : AW _ _ _ _) ?_ | fail))
    | true =>
      obtain ⟨h3, h4, h5⟩ := h1 rfl
      have hle := h3.le hab
      cases f with
      | zero => omega
      | succ f =>
        have g := g59 fl v h3
        simp only [pthN] at h4
        cases hw : wid es l.length a b gone fl with
        | none =>
          rw [hw] at g h4
          simp only [Option.isSome_none, Option.getD_none] at g h4
          (repeat' (first | refine NextAt.mk (fun hc => ?_) (fun pre n v post hc hkey => ?_) | refine Sni.mk (fun hc => ?_) ?_ | refine Both.mk ?_ ?_ | refine AW_seq ?_ | refine AW_block ?_ | ((first | refine AW_reg ?_ | refine AW_cond ?_ | refine AW_skip ?_ | refine AW_exit ?_ | refine AW_ret ?_ | refine AW_regD (by kernel_rfl) ?_ | refine AW_regX (by kernel_rfl) ?_ | refine CallAtG.t (Eq.refl true) ?_ | refine CallAtG.f (Eq.refl false) ?_ | refine CallAt.mk _ (g ..) (by first | (intro h; cases h; done) | (intro _; repeat' (first | exact List.forall_mem_nil _ | trivial | refine List.forall_mem_cons.2 ⟨?_, ?_⟩)) | (intro _; simp [RV.flatP, CD.flatP, inK]; done)) ?_ | refine CallAtG.mk _ (fun _ => g ..) ?_ | refine CallDS.mk _ (by simp [RV.data]) (fun _ => g ..) (by first | (intro h; cases h; done) | (intro _; repeat' (first | exact List.forall_mem_nil _ | trivial | refine List.forall_mem_cons.2 ⟨?_, ?_⟩)) | (intro _; simp [RV.flatP, CD.flatP, inK]; done)) ?_); try simp (disch := omega) only [go_sem, seval, reduceCtorEq, ↓reduceIte, beq_dec, Int.toNat_natCast, IntKind.signed, IntKind.bits, inK]) | refine And.intro (fun hc => (?_ : AW _ _ _ _)) (fun hc => (?_ : AW _ _ _ _)) | simp (disch := omega) only [go_sem, seval, reduceCtorEq, ↓reduceIte, beq_dec, Int.toNat_natCast, IntKind.signed, IntKind.bits, inK] | (refine And.intro ?_ ?_; focus (first | (intros; omega) | (intros; simp_all; done))) | refine And.intro (?_ : CallAt _ _ _ _ _ _ _ _) ?_ | refine And.intro (?_ : CallAt _ _ _ _ _ _ _ _ ∧ _) ?_ | refine And.intro (?_ : AW _ _ _ _) ?_ | fail))
          all_goals first
            | (exfalso; omega)
            | skip
          refine .mk ⟨f, fl, v, false⟩ ⟨h0, h00, (fun h => by cases h), fun _ => h4⟩ (by simp) ?_
          simp (disch := omega) only [go_sem, seval, reduceCtorEq, ↓reduceIte, beq_dec, Int.toNat_natCast, IntKind.signed, IntKind.bits]
        | some fl' =>
          rw [hw] at g h4
          simp only [Option.isSome_some, Option.getD_some] at g h4
          have hle2 := (wid_some he ha h3 hw).le hab
          (repeat' (first | refine NextAt.mk (fun hc => ?_) (fun pre n v post hc hkey => ?_) | refine Sni.mk (fun hc => ?_) ?_ | refine Both.mk ?_ ?_ | refine AW_seq ?_ | refine AW_block ?_ | ((first | refine AW_reg ?_ | refine AW_cond ?_ | refine AW_skip ?_ | refine AW_exit ?_ | refine AW_ret ?_ | refine AW_regD (by kernel_rfl) ?_ | refine AW_regX (by kernel_rfl) ?_ | refine CallAtG.t (Eq.refl true) ?_ | refine CallAtG.f (Eq.refl false) ?_ | refine CallAt.mk _ (g ..) (by first | (intro h; cases h; done) | (intro _; repeat' (first | exact List.forall_mem_nil _ | trivial | refine List.forall_mem_cons.2 ⟨?_, ?_⟩)) | (intro _; simp [RV.flatP, CD.flatP, inK]; done)) ?_ | refine CallAtG.mk _ (fun _ => g ..) ?_ | refine CallDS.mk _ (by simp [RV.data]) (fun _ => g ..) (by first | (intro h; cases h; done) | (intro _; repeat' (first | exact List.forall_mem_nil _ | trivial | refine List.forall_mem_cons.2 ⟨?_, ?_⟩)) | (intro _; simp [RV.flatP, CD.flatP, inK]; done)) ?_); try simp (disch := omega) only [go_sem, seval, reduceCtorEq, ↓reduceIte, beq_dec, Int.toNat_natCast, IntKind.signed, IntKind.bits, inK]) | refine And.intro (fun hc => (?_ : AW _ _ _ _)) (fun hc => (?_ : AW _ _ _ _)) | simp (disch := omega) only [go_sem, seval, reduceCtorEq, ↓reduceIte, beq_dec, Int.toNat_natCast, IntKind.signed, IntKind.bits, inK] | (refine And.intro ?_ ?_; focus (first | (intros; omega) | (intros; simp_all; done))) | refine And.intro (?_ : CallAt _ _ _ _ _ _ _ _) ?_ | refine And.intro (?_ : CallAt _ _ _ _ _ _ _ _ ∧ _) ?_ | refine And.intro (?_ : AW _ _ _ _) ?_ | fail))
          all_goals first
            | (exfalso; omega)
            | (refine .mk ⟨f, fl', v + 1, true⟩ ⟨by simp only []; omega, by simp only []; omega, fun _ => ⟨wid_some he ha h3 hw, h4, by simp only []; omega⟩, fun h => by cases h⟩ (by simp) ?_
               simp (disch := omega) only [go_sem, seval, reduceCtorEq, ↓reduceIte, beq_dec, Int.toNat_natCast, IntKind.signed, IntKind.bits])
            | trace_state
theorem flow_ref {g : Gr} (hv : validG g = true) (out : List Int) (a b : Die) : mfl (esD (diesG g) g.links) (diesG g).length (goneL g.links out) (plN (diesG g) a) (plN (diesG g) b) = flowM g (goneL g.links out) a b := by
  unfold flowM
  rw [esG_eq hv, dies_len]
theorem n38g (g : Gr) (out : List Int) (a b : Die) (hv : validG g = true) (hok : okV g a b = true) : FnR Try.prog 38 [.c (DL (diesG g)), .c (LL g.links), .c (Row out), .I (plN (diesG g) a), .I (plN (diesG g) b)] [.c (.I (flowM g (goneL g.links out) a b))] := by
  obtain ⟨h1, h2, h3⟩ := okV_iff.1 hok
  have hsm := valid_small hv
  have hl := dies_len g
  rw [← flow_ref hv]
  exact n38 (diesG g) g.links out _ _ (by omega) (valid_ends hv) (plN_mem h1).1 (plN_mem h2).1 (fun e => h3 ((plc_ne h1 h2).1 e)) (by omega)
set_option maxHeartbeats 4000000 in
theorem n14 (g : Gr) (a b : Die) : FnR Try.prog 14 [g.av, a.av, b.av] [.c (.I (flowV g a b)), .c (.I (flowE g a b))] := by
  have g37 := f37 g
  cases hv : validG g with
  | false =>
    have e0 : errV g = 1 := by unfold errV; rw [hv]; rfl
    rw [e0] at g37
    have e : flowE g a b = 1 := by unfold flowE; rw [hv]; rfl
    have e2 : flowV g a b = 0 := by unfold flowV; rw [e]; rfl
    rw [e, e2]
    refine fn_walk code14 (by simp) ?_
    (repeat' (first | refine NextAt.mk (fun hc => ?_) (fun pre n v post hc hkey => ?_) | refine Sni.mk (fun hc => ?_) ?_ | refine Both.mk ?_ ?_ | refine AW_seq ?_ | refine AW_block ?_ | ((first | refine AW_reg ?_ | refine AW_cond ?_ | refine AW_skip ?_ | refine AW_exit ?_ | refine AW_ret ?_ | refine AW_regD (by kernel_rfl) ?_ | refine AW_regX (by kernel_rfl) ?_ | refine CallAtG.t (Eq.refl true) ?_ | refine CallAtG.f (Eq.refl false) ?_ | refine CallAt.mk _ (g37 ..) (by first | (intro h; cases h; done) | (intro _; repeat' (first | exact List.forall_mem_nil _ | trivial | refine List.forall_mem_cons.2 ⟨?_, ?_⟩)) | (intro _; simp [RV.flatP, CD.flatP]; done)) ?_ | refine CallAtG.mk _ (fun _ => g37 ..) ?_ | refine CallDS.mk _ (by simp [RV.data]) (fun _ => g37 ..) (by first | (intro h; cases h; done) | (intro _; repeat' (first | exact List.forall_mem_nil _ | trivial | refine List.forall_mem_cons.2 ⟨?_, ?_⟩)) | (intro _; simp [RV.flatP, CD.flatP]; done)) ?_); try simp (disch := omega) only [go_sem, seval, reduceCtorEq, ↓reduceIte, beq_dec, Int.toNat_natCast, IntKind.signed, IntKind.bits]) | refine And.intro (fun hc => (?_ : AW _ _ _ _)) (fun hc => (?_ : AW _ _ _ _)) | simp (disch := omega) only [go_sem, seval, reduceCtorEq, ↓reduceIte, beq_dec, Int.toNat_natCast, IntKind.signed, IntKind.bits] | (refine And.intro ?_ ?_; focus (first | (intros; omega) | (intros; simp_all; done))) | refine And.intro (?_ : CallAt _ _ _ _ _ _ _ _) ?_ | refine And.intro (?_ : CallAt _ _ _ _ _ _ _ _ ∧ _) ?_ | refine And.intro (?_ : AW _ _ _ _) ?_ | fail))
  | true =>
    rw [dies_valid hv, errV_valid hv] at g37
    have ga := f40 (diesG g) a
    have gb := f40 (diesG g) b
    have hde := @die_ext a b
    cases hok : okV g a b with
    | false =>
      have e : flowE g a b = 7 := by unfold flowE; rw [hv, hok]; rfl
      have e2 : flowV g a b = 0 := by unfold flowV; rw [e]; rfl
      rw [e, e2]
      have hno : ¬ (a ∈ diesG g ∧ b ∈ diesG g ∧ a ≠ b) := fun h => by rw [okV_iff.2 h] at hok; cases hok
      refine fn_walk code14 (by simp) ?_
      by_cases hab : a = b
      · obtain ⟨h1, h2⟩ := hde.1 hab
        have e1 : (a.side = b.side) = True := eq_true h1
        have e2 : (a.num = b.num) = True := eq_true h2
        (repeat' (first | refine NextAt.mk (fun hc => ?_) (fun pre n v post hc hkey => ?_) | refine Sni.mk (fun hc => ?_) ?_ | refine Both.mk ?_ ?_ | refine AW_seq ?_ | refine AW_block ?_ | ((first | refine AW_reg ?_ | refine AW_cond ?_ | refine AW_skip ?_ | refine AW_exit ?_ | refine AW_ret ?_ | refine AW_regD (by kernel_rfl) ?_ | refine AW_regX (by kernel_rfl) ?_ | refine CallAtG.t (Eq.refl true) ?_ | refine CallAtG.f (Eq.refl false) ?_ | refine CallAt.mk _ (g37 ..) (by first | (intro h; cases h; done) | (intro _; repeat' (first | exact List.forall_mem_nil _ | trivial | refine List.forall_mem_cons.2 ⟨?_, ?_⟩)) | (intro _; simp [RV.flatP, CD.flatP, e1, e2]; done)) ?_ | refine CallAtG.mk _ (fun _ => g37 ..) ?_ | refine CallDS.mk _ (by simp [RV.data]) (fun _ => g37 ..) (by first | (intro h; cases h; done) | (intro _; repeat' (first | exact List.forall_mem_nil _ | trivial | refine List.forall_mem_cons.2 ⟨?_, ?_⟩)) | (intro _; simp [RV.flatP, CD.flatP, e1, e2]; done)) ?_ | refine CallAt.mk _ (ga ..) (by first | (intro h; cases h; done) | (intro _; repeat' (first | exact List.forall_mem_nil _ | trivial | refine List.forall_mem_cons.2 ⟨?_, ?_⟩)) | (intro _; simp [RV.flatP, CD.flatP, e1, e2]; done)) ?_ | refine CallAtG.mk _ (fun _ => ga ..) ?_ | refine CallDS.mk _ (by simp [RV.data]) (fun _ => ga ..) (by first | (intro h; cases h; done) | (intro _; repeat' (first | exact List.forall_mem_nil _ | trivial | refine List.forall_mem_cons.2 ⟨?_, ?_⟩)) | (intro _; simp [RV.flatP, CD.flatP, e1, e2]; done)) ?_ | refine CallAt.mk _ (gb ..) (by first | (intro h; cases h; done) | (intro _; repeat' (first | exact List.forall_mem_nil _ | trivial | refine List.forall_mem_cons.2 ⟨?_, ?_⟩)) | (intro _; simp [RV.flatP, CD.flatP, e1, e2]; done)) ?_ | refine CallAtG.mk _ (fun _ => gb ..) ?_ | refine CallDS.mk _ (by simp [RV.data]) (fun _ => gb ..) (by first | (intro h; cases h; done) | (intro _; repeat' (first | exact List.forall_mem_nil _ | trivial | refine List.forall_mem_cons.2 ⟨?_, ?_⟩)) | (intro _; simp [RV.flatP, CD.flatP, e1, e2]; done)) ?_); try simp (disch := omega) only [go_sem, seval, reduceCtorEq, ↓reduceIte, beq_dec, Int.toNat_natCast, IntKind.signed, IntKind.bits, e1, e2]) | refine And.intro (fun hc => (?_ : AW _ _ _ _)) (fun hc => (?_ : AW _ _ _ _)) | simp (disch := omega) only [go_sem, seval, reduceCtorEq, ↓reduceIte, beq_dec, Int.toNat_natCast, IntKind.signed, IntKind.bits, e1, e2] | (refine And.intro ?_ ?_; focus (first | (intros; omega) | (intros; simp_all; done))) | refine And.intro (?_ : CallAt _ _ _ _ _ _ _ _) ?_ | refine And.intro (?_ : CallAt _ _ _ _ _ _ _ _ ∧ _) ?_ | refine And.intro (?_ : AW _ _ _ _) ?_ | fail))
      · have e1 : (a.side = b.side ∧ a.num = b.num) = False := eq_false fun h => hab (hde.2 h)
        by_cases hm : a ∈ diesG g
        · have hm2 : b ∉ diesG g := fun h => hno ⟨hm, h, hab⟩
          rw [plc_nat hm] at ga
          rw [plc_neg hm2] at gb
          (repeat' (first | refine NextAt.mk (fun hc => ?_) (fun pre n v post hc hkey => ?_) | refine Sni.mk (fun hc => ?_) ?_ | refine Both.mk ?_ ?_ | refine AW_seq ?_ | refine AW_block ?_ | ((first | refine AW_reg ?_ | refine AW_cond ?_ | refine AW_skip ?_ | refine AW_exit ?_ | refine AW_ret ?_ | refine AW_regD (by kernel_rfl) ?_ | refine AW_regX (by kernel_rfl) ?_ | refine CallAtG.t (Eq.refl true) ?_ | refine CallAtG.f (Eq.refl false) ?_ | refine CallAt.mk _ (g37 ..) (by first | (intro h; cases h; done) | (intro _; repeat' (first | exact List.forall_mem_nil _ | trivial | refine List.forall_mem_cons.2 ⟨?_, ?_⟩)) | (intro _; simp [RV.flatP, CD.flatP, e1]; done)) ?_ | refine CallAtG.mk _ (fun _ => g37 ..) ?_ | refine CallDS.mk _ (by simp [RV.data]) (fun _ => g37 ..) (by first | (intro h; cases h; done) | (intro _; repeat' (first | exact List.forall_mem_nil _ | trivial | refine List.forall_mem_cons.2 ⟨?_, ?_⟩)) | (intro _; simp [RV.flatP, CD.flatP, e1]; done)) ?_ | refine CallAt.mk _ (ga ..) (by first | (intro h; cases h; done) | (intro _; repeat' (first | exact List.forall_mem_nil _ | trivial | refine List.forall_mem_cons.2 ⟨?_, ?_⟩)) | (intro _; simp [RV.flatP, CD.flatP, e1]; done)) ?_ | refine CallAtG.mk _ (fun _ => ga ..) ?_ | refine CallDS.mk _ (by simp [RV.data]) (fun _ => ga ..) (by first | (intro h; cases h; done) | (intro _; repeat' (first | exact List.forall_mem_nil _ | trivial | refine List.forall_mem_cons.2 ⟨?_, ?_⟩)) | (intro _; simp [RV.flatP, CD.flatP, e1]; done)) ?_ | refine CallAt.mk _ (gb ..) (by first | (intro h; cases h; done) | (intro _; repeat' (first | exact List.forall_mem_nil _ | trivial | refine List.forall_mem_cons.2 ⟨?_, ?_⟩)) | (intro _; simp [RV.flatP, CD.flatP, e1]; done)) ?_ | refine CallAtG.mk _ (fun _ => gb ..) ?_ | refine CallDS.mk _ (by simp [RV.data]) (fun _ => gb ..) (by first | (intro h; cases h; done) | (intro _; repeat' (first | exact List.forall_mem_nil _ | trivial | refine List.forall_mem_cons.2 ⟨?_, ?_⟩)) | (intro _; simp [RV.flatP, CD.flatP, e1]; done)) ?_); try simp (disch := omega) only [go_sem, seval, reduceCtorEq, ↓reduceIte, beq_dec, Int.toNat_natCast, IntKind.signed, IntKind.bits, e1]) | refine And.intro (fun hc => (?_ : AW _ _ _ _)) (fun hc => (?_ : AW _ _ _ _)) | simp (disch := omega) only [go_sem, seval, reduceCtorEq, ↓reduceIte, beq_dec, Int.toNat_natCast, IntKind.signed, IntKind.bits, e1] | (refine And.intro ?_ ?_; focus (first | (intros; omega) | (intros; simp_all; done))) | refine And.intro (?_ : CallAt _ _ _ _ _ _ _ _) ?_ | refine And.intro (?_ : CallAt _ _ _ _ _ _ _ _ ∧ _) ?_ | refine And.intro (?_ : AW _ _ _ _) ?_ | fail))
          all_goals trace_state
        · rw [plc_neg hm] at ga
          (repeat' (first | refine NextAt.mk (fun hc => ?_) (fun pre n v post hc hkey => ?_) | refine Sni.mk (fun hc => ?_) ?_ | refine Both.mk ?_ ?_ | refine AW_seq ?_ | refine AW_block ?_ | ((first | refine AW_reg ?_ | refine AW_cond ?_ | refine AW_skip ?_ | refine AW_exit ?_ | refine AW_ret ?_ | refine AW_regD (by kernel_rfl) ?_ | refine AW_regX (by kernel_rfl) ?_ | refine CallAtG.t (Eq.refl true) ?_ | refine CallAtG.f (Eq.refl false) ?_ | refine CallAt.mk _ (g37 ..) (by first | (intro h; cases h; done) | (intro _; repeat' (first | exact List.forall_mem_nil _ | trivial | refine List.forall_mem_cons.2 ⟨?_, ?_⟩)) | (intro _; simp [RV.flatP, CD.flatP, e1]; done)) ?_ | refine CallAtG.mk _ (fun _ => g37 ..) ?_ | refine CallDS.mk _ (by simp [RV.data]) (fun _ => g37 ..) (by first | (intro h; cases h; done) | (intro _; repeat' (first | exact List.forall_mem_nil _ | trivial | refine List.forall_mem_cons.2 ⟨?_, ?_⟩)) | (intro _; simp [RV.flatP, CD.flatP, e1]; done)) ?_ | refine CallAt.mk _ (ga ..) (by first | (intro h; cases h; done) | (intro _; repeat' (first | exact List.forall_mem_nil _ | trivial | refine List.forall_mem_cons.2 ⟨?_, ?_⟩)) | (intro _; simp [RV.flatP, CD.flatP, e1]; done)) ?_ | refine CallAtG.mk _ (fun _ => ga ..) ?_ | refine CallDS.mk _ (by simp [RV.data]) (fun _ => ga ..) (by first | (intro h; cases h; done) | (intro _; repeat' (first | exact List.forall_mem_nil _ | trivial | refine List.forall_mem_cons.2 ⟨?_, ?_⟩)) | (intro _; simp [RV.flatP, CD.flatP, e1]; done)) ?_ | refine CallAt.mk _ (gb ..) (by first | (intro h; cases h; done) | (intro _; repeat' (first | exact List.forall_mem_nil _ | trivial | refine List.forall_mem_cons.2 ⟨?_, ?_⟩)) | (intro _; simp [RV.flatP, CD.flatP, e1]; done)) ?_ | refine CallAtG.mk _ (fun _ => gb ..) ?_ | refine CallDS.mk _ (by simp [RV.data]) (fun _ => gb ..) (by first | (intro h; cases h; done) | (intro _; repeat' (first | exact List.forall_mem_nil _ | trivial | refine List.forall_mem_cons.2 ⟨?_, ?_⟩)) | (intro _; simp [RV.flatP, CD.flatP, e1]; done)) ?_); try simp (disch := omega) only [go_sem, seval, reduceCtorEq, ↓reduceIte, beq_dec, Int.toNat_natCast, IntKind.signed, IntKind.bits, e1]) | refine And.intro (fun hc => (?_ : AW _ _ _ _)) (fun hc => (?_ : AW _ _ _ _)) | simp (disch := omega) only [go_sem, seval, reduceCtorEq, ↓reduceIte, beq_dec, Int.toNat_natCast, IntKind.signed, IntKind.bits, e1] | (refine And.intro ?_ ?_; focus (first | (intros; omega) | (intros; simp_all; done))) | refine And.intro (?_ : CallAt _ _ _ _ _ _ _ _) ?_ | refine And.intro (?_ : CallAt _ _ _ _ _ _ _ _ ∧ _) ?_ | refine And.intro (?_ : AW _ _ _ _) ?_ | fail))
          all_goals trace_state
    | true =>
      have e : flowE g a b = 0 := by unfold flowE; rw [hv, hok]; rfl
      have e2 : flowV g a b = flowM g (noG g) a b := by unfold flowV; rw [e]; rfl
      obtain ⟨h1, h2, h3⟩ := okV_iff.1 hok
      have g38 := n38g g [] a b hv hok
      rw [goneL_nil] at g38
      have g38n := FnR.nil (pre := [.c (DL (diesG g)), .c (LL g.links)]) (post := [.I (plN (diesG g) a), .I (plN (diesG g) b)]) (k := 1) g38
      rw [plc_nat h1] at ga
      rw [plc_nat h2] at gb
      rw [e, e2]
      have e1 : (a.side = b.side ∧ a.num = b.num) = False := eq_false fun h => h3 (hde.2 h)
      generalize flowM g (noG g) a b = fin at *
      clear g38
      refine fn_walk code14 (by simp) ?_
      (repeat' (first | refine NextAt.mk (fun hc => ?_) (fun pre n v post hc hkey => ?_) | refine Sni.mk (fun hc => ?_) ?_ | refine Both.mk ?_ ?_ | refine AW_seq ?_ | refine AW_block ?_ | ((first | refine AW_reg ?_ | refine AW_cond ?_ | refine AW_skip ?_ | refine AW_exit ?_ | refine AW_ret ?_ | refine AW_regD (by kernel_rfl) ?_ | refine AW_regX (by kernel_rfl) ?_ | refine CallAtG.t (Eq.refl true) ?_ | refine CallAtG.f (Eq.refl false) ?_ | refine CallAt.mk _ (g37 ..) (by first | (intro h; cases h; done) | (intro _; repeat' (first | exact List.forall_mem_nil _ | trivial | refine List.forall_mem_cons.2 ⟨?_, ?_⟩)) | (intro _; simp [RV.flatP, CD.flatP, e1]; done)) ?_ | refine CallAtG.mk _ (fun _ => g37 ..) ?_ | refine CallDS.mk _ (by simp [RV.data]) (fun _ => g37 ..) (by first | (intro h; cases h; done) | (intro _; repeat' (first | exact List.forall_mem_nil _ | trivial | refine List.forall_mem_cons.2 ⟨?_, ?_⟩)) | (intro _; simp [RV.flatP, CD.flatP, e1]; done)) ?_ | refine CallAt.mk _ (ga ..) (by first | (intro h; cases h; done) | (intro _; repeat' (first | exact List.forall_mem_nil _ | trivial | refine List.forall_mem_cons.2 ⟨?_, ?_⟩)) | (intro _; simp [RV.flatP, CD.flatP, e1]; done)) ?_ | refine CallAtG.mk _ (fun _ => ga ..) ?_ | refine CallDS.mk _ (by simp [RV.data]) (fun _ => ga ..) (by first | (intro h; cases h; done) | (intro _; repeat' (first | exact List.forall_mem_nil _ | trivial | refine List.forall_mem_cons.2 ⟨?_, ?_⟩)) | (intro _; simp [RV.flatP, CD.flatP, e1]; done)) ?_ | refine CallAt.mk _ (gb ..) (by first | (intro h; cases h; done) | (intro _; repeat' (first | exact List.forall_mem_nil _ | trivial | refine List.forall_mem_cons.2 ⟨?_, ?_⟩)) | (intro _; simp [RV.flatP, CD.flatP, e1]; done)) ?_ | refine CallAtG.mk _ (fun _ => gb ..) ?_ | refine CallDS.mk _ (by simp [RV.data]) (fun _ => gb ..) (by first | (intro h; cases h; done) | (intro _; repeat' (first | exact List.forall_mem_nil _ | trivial | refine List.forall_mem_cons.2 ⟨?_, ?_⟩)) | (intro _; simp [RV.flatP, CD.flatP, e1]; done)) ?_ | refine CallAt.mk _ (g38n ..) (by first | (intro h; cases h; done) | (intro _; repeat' (first | exact List.forall_mem_nil _ | trivial | refine List.forall_mem_cons.2 ⟨?_, ?_⟩)) | (intro _; simp [RV.flatP, CD.flatP, e1]; done)) ?_ | refine CallAtG.mk _ (fun _ => g38n ..) ?_ | refine CallDS.mk _ (by simp [RV.data]) (fun _ => g38n ..) (by first | (intro h; cases h; done) | (intro _; repeat' (first | exact List.forall_mem_nil _ | trivial | refine List.forall_mem_cons.2 ⟨?_, ?_⟩)) | (intro _; simp [RV.flatP, CD.flatP, e1]; done)) ?_); try simp (disch := omega) only [go_sem, seval, reduceCtorEq, ↓reduceIte, beq_dec, Int.toNat_natCast, IntKind.signed, IntKind.bits, e1]) | refine And.intro (fun hc => (?_ : AW _ _ _ _)) (fun hc => (?_ : AW _ _ _ _)) | simp (disch := omega) only [go_sem, seval, reduceCtorEq, ↓reduceIte, beq_dec, Int.toNat_natCast, IntKind.signed, IntKind.bits, e1] | (refine And.intro ?_ ?_; focus (first | (intros; omega) | (intros; simp_all; done))) | refine And.intro (?_ : CallAt _ _ _ _ _ _ _ _) ?_ | refine And.intro (?_ : CallAt _ _ _ _ _ _ _ _ ∧ _) ?_ | refine And.intro (?_ : AW _ _ _ _) ?_ | fail))
      all_goals
        have hc : (False ∨ ((plN (diesG g) a : Nat) : Int) < 0) ∨ ((plN (diesG g) b : Nat) : Int) < 0 := by assumption
        rcases hc with (h | h) | h
        · exact h
        · omega
        · omega
theorem n17 (g : Gr) (a b : Die) : FnR Try.prog 17 [g.av, a.av, b.av] [.c (.B (decide (flowE g a b = 0 ∧ 2 ≤ flowV g a b)))] := by
  have g14 := n14 g a b
  refine fn_walk code17 (by simp) ?_
  (repeat' (first | refine NextAt.mk (fun hc => ?_) (fun pre n v post hc hkey => ?_) | refine Sni.mk (fun hc => ?_) ?_ | refine Both.mk ?_ ?_ | refine AW_seq ?_ | refine AW_block ?_ | ((first | refine AW_reg ?_ | refine AW_cond ?_ | refine AW_skip ?_ | refine AW_exit ?_ | refine AW_ret ?_ | refine AW_regD (by kernel_rfl) ?_ | refine AW_regX (by kernel_rfl) ?_ | refine CallAtG.t (Eq.refl true) ?_ | refine CallAtG.f (Eq.refl false) ?_ | refine CallAt.mk _ (g14 ..) (by first | (intro h; cases h; done) | (intro _; repeat' (first | exact List.forall_mem_nil _ | trivial | refine List.forall_mem_cons.2 ⟨?_, ?_⟩)) | (intro _; simp [RV.flatP, CD.flatP]; done)) ?_ | refine CallAtG.mk _ (fun _ => g14 ..) ?_ | refine CallDS.mk _ (by simp [RV.data]) (fun _ => g14 ..) (by first | (intro h; cases h; done) | (intro _; repeat' (first | exact List.forall_mem_nil _ | trivial | refine List.forall_mem_cons.2 ⟨?_, ?_⟩)) | (intro _; simp [RV.flatP, CD.flatP]; done)) ?_); try simp (disch := omega) only [go_sem, seval, reduceCtorEq, ↓reduceIte, beq_dec, Int.toNat_natCast, IntKind.signed, IntKind.bits]) | refine And.intro (fun hc => (?_ : AW _ _ _ _)) (fun hc => (?_ : AW _ _ _ _)) | simp (disch := omega) only [go_sem, seval, reduceCtorEq, ↓reduceIte, beq_dec, Int.toNat_natCast, IntKind.signed, IntKind.bits] | (refine And.intro ?_ ?_; focus (first | (intros; omega) | (intros; simp_all; done))) | refine And.intro (?_ : CallAt _ _ _ _ _ _ _ _) ?_ | refine And.intro (?_ : CallAt _ _ _ _ _ _ _ _ ∧ _) ?_ | refine And.intro (?_ : AW _ _ _ _) ?_ | fail))
  all_goals simp
end Go.Proofs.Ytgldpbghbkoolaa

-- P p_15.txt
open Go Go.AL Go.RowKit
namespace Go.Proofs.Ytgldpbghbkoolaa
set_option maxRecDepth 20000
theorem bR_setT (l : List Bool) (j : Nat) (b : Bool) : (bR l).set j [CD.B b] = bR (l.set j b) := by unfold bR; rw [List.map_set]
theorem n35G (g : Gr) (gone : List Bool) (a b : Die) (hv : validG g = true) (hok : okV g a b = true) (hg : gone.length = g.links.length) : FnR Try.prog 35 [netAV (nG g) (idsG g) (esG g), .I (plN (diesG g) a), .I (plN (diesG g) b), .c (.sl 1 (bR gone))] [.c (.I (flowM g gone a b))] := n35g g gone a b hv hok hg
theorem n13e (g : Gr) (a b : Die) (h : flowE g a b ≠ 0) : FnR Try.prog 13 [g.av, a.av, b.av] [.c .nil, .c (.I (flowE g a b))] := by
  have g11 := n11 g a b
  rw [flowV_err h] at g11
  generalize flowE g a b = e at *
  refine fn_walk code13 (by simp) ?_
  (repeat' (first | refine NextAt.mk (fun hc => ?_) (fun pre n v post hc hkey => ?_) | refine Sni.mk (fun hc => ?_) ?_ | refine Both.mk ?_ ?_ | refine AW_seq ?_ | refine AW_block ?_ | ((first | refine AW_reg ?_ | refine AW_cond ?_ | refine AW_skip ?_ | refine AW_exit ?_ | refine AW_ret ?_ | refine AW_regD (by kernel_rfl) ?_ | refine AW_regX (by kernel_rfl) ?_ | refine CallAtG.t (Eq.refl true) ?_ | refine CallAtG.f (Eq.refl false) ?_ | refine CallAt.mk _ (g11 ..) (by first | (intro h; cases h; done) | (intro _; repeat' (first | exact List.forall_mem_nil _ | trivial | refine List.forall_mem_cons.2 ⟨?_, ?_⟩)) | (intro _; simp [RV.flatP, CD.flatP]; done)) ?_ | refine CallAtG.mk _ (fun _ => g11 ..) ?_ | refine CallDS.mk _ (by simp [RV.data]) (fun _ => g11 ..) (by first | (intro h; cases h; done) | (intro _; repeat' (first | exact List.forall_mem_nil _ | trivial | refine List.forall_mem_cons.2 ⟨?_, ?_⟩)) | (intro _; simp [RV.flatP, CD.flatP]; done)) ?_); try simp (disch := omega) only [go_sem, seval, reduceCtorEq, ↓reduceIte, beq_dec, Int.toNat_natCast, IntKind.signed, IntKind.bits]) | refine And.intro (fun hc => (?_ : AW _ _ _ _)) (fun hc => (?_ : AW _ _ _ _)) | simp (disch := omega) only [go_sem, seval, reduceCtorEq, ↓reduceIte, beq_dec, Int.toNat_natCast, IntKind.signed, IntKind.bits] | (refine And.intro ?_ ?_; focus (first | (intros; omega) | (intros; simp_all; done))) | refine And.intro (?_ : CallAt _ _ _ _ _ _ _ _) ?_ | refine And.intro (?_ : CallAt _ _ _ _ _ _ _ _ ∧ _) ?_ | refine And.intro (?_ : AW _ _ _ _) ?_ | fail))
  all_goals (exact absurd (by assumption) h)
set_option maxHeartbeats 8000000 in
theorem n13 (g : Gr) (a b : Die) (h : flowE g a b = 0) : FnR Try.prog 13 [g.av, a.av, b.av] [ORow (cutV g a b), .c (.I 0)] := by
  have g11 := n11 g a b
  obtain ⟨hv, ha, hb, hab⟩ := flowE_zero.1 h
  have hok := okV_iff.2 ⟨ha, hb, hab⟩
  have hsm := valid_small hv
  have g33 := n33 g a b hv
  have g34 := n34 g hv
  have hV : flowV g a b = flowM g (noG g) a b := by unfold flowV; rw [if_pos h]
  have hbn := flowV_nonneg g a b
  have e2 : cutV g a b = cutI g a b (flowM g (noG g) a b) g.links.length := by unfold cutV; rw [if_pos h]
  rw [h, hV] at g11
  rw [hV] at hbn
  rw [hok, plc_nat ha, plc_nat hb] at g33
  rw [e2]
  have g35 := fun gone hg => n35G g gone a b hv hok hg
  have hcl := cutI_len g a b (flowM g (noG g) a b)
  have hcn := cutI_new hv a b (flowM g (noG g) a b)
  have hids := valid_ids hv
  have hz : List.replicate g.links.length [CD.B false] = bR (goneL g.links (cutI g a b (flowM g (noG g) a b) 0)) := by
    rw [cutI, goneL_nil]; unfold noG bR; rw [List.map_replicate]
  generalize hN : flowM g (noG g) a b = n at *
  refine fn_walk code13 (by simp) ?_
  (repeat' (first | refine NextAt.mk (fun hc => ?_) (fun pre n v post hc hkey => ?_) | refine Sni.mk (fun hc => ?_) ?_ | refine Both.mk ?_ ?_ | refine AW_seq ?_ | refine AW_block ?_ | ((first | refine AW_reg ?_ | refine AW_cond ?_ | refine AW_skip ?_ | refine AW_exit ?_ | refine AW_ret ?_ | refine AW_regD (by kernel_rfl) ?_ | refine AW_regX (by kernel_rfl) ?_ | refine CallAtG.t (Eq.refl true) ?_ | refine CallAtG.f (Eq.refl false) ?_ | refine CallAt.mk _ (g11 ..) (by first | (intro h; cases h; done) | (intro _; repeat' (first | exact List.forall_mem_nil _ | trivial | refine List.forall_mem_cons.2 ⟨?_, ?_⟩)) | (intro _; simp [RV.flatP, CD.flatP, List.length_map, maxLen, hz]; done)) ?_ | refine CallAtG.mk _ (fun _ => g11 ..) ?_ | refine CallDS.mk _ (by simp [RV.data]) (fun _ => g11 ..) (by first | (intro h; cases h; done) | (intro _; repeat' (first | exact List.forall_mem_nil _ | trivial | refine List.forall_mem_cons.2 ⟨?_, ?_⟩)) | (intro _; simp [RV.flatP, CD.flatP, List.length_map, maxLen, hz]; done)) ?_ | refine CallAt.mk _ (g33 ..) (by first | (intro h; cases h; done) | (intro _; repeat' (first | exact List.forall_mem_nil _ | trivial | refine List.forall_mem_cons.2 ⟨?_, ?_⟩)) | (intro _; simp [RV.flatP, CD.flatP, List.length_map, maxLen, hz]; done)) ?_ | refine CallAtG.mk _ (fun _ => g33 ..) ?_ | refine CallDS.mk _ (by simp [RV.data]) (fun _ => g33 ..) (by first | (intro h; cases h; done) | (intro _; repeat' (first | exact List.forall_mem_nil _ | trivial | refine List.forall_mem_cons.2 ⟨?_, ?_⟩)) | (intro _; simp [RV.flatP, CD.flatP, List.length_map, maxLen, hz]; done)) ?_ | refine CallAt.mk _ (g34 ..) (by first | (intro h; cases h; done) | (intro _; repeat' (first | exact List.forall_mem_nil _ | trivial | refine List.forall_mem_cons.2 ⟨?_, ?_⟩)) | (intro _; simp [RV.flatP, CD.flatP, List.length_map, maxLen, hz]; done)) ?_ | refine CallAtG.mk _ (fun _ => g34 ..) ?_ | refine CallDS.mk _ (by simp [RV.data]) (fun _ => g34 ..) (by first | (intro h; cases h; done) | (intro _; repeat' (first | exact List.forall_mem_nil _ | trivial | refine List.forall_mem_cons.2 ⟨?_, ?_⟩)) | (intro _; simp [RV.flatP, CD.flatP, List.length_map, maxLen, hz]; done)) ?_); try simp (disch := omega) only [go_sem, seval, reduceCtorEq, ↓reduceIte, beq_dec, Int.toNat_natCast, IntKind.signed, IntKind.bits, List.length_map, maxLen, hz]) | refine And.intro (fun hc => (?_ : AW _ _ _ _)) (fun hc => (?_ : AW _ _ _ _)) | simp (disch := omega) only [go_sem, seval, reduceCtorEq, ↓reduceIte, beq_dec, Int.toNat_natCast, IntKind.signed, IntKind.bits, List.length_map, maxLen, hz] | (refine And.intro ?_ ?_; focus (first | (intros; omega) | (intros; simp_all; done))) | refine And.intro (?_ : CallAt _ _ _ _ _ _ _ _) ?_ | refine And.intro (?_ : CallAt _ _ _ _ _ _ _ _ ∧ _) ?_ | refine And.intro (?_ : AW _ _ _ _) ?_ | fail))
  refine AW_nil 15 900 3 1 (by rfl) ?_
  refine AW_loopK [8, 10, 11, 13, 14] [15, 16, 41, 42, 43, 44, 45, 46, 47, 48, 49, 50, 51, 52, 53, 54, 55, 56, 57, 58, 59, 60, 61, 62, 63, 64, 65, 66, 67, 68, 69, 70, 71, 72, 73, 74, 75, 76, 77] (fun j : Nat => j ≤ g.links.length) (fun j => [(16, .I j), (15, .own 900)]) (fun j => [(40, .arr 4 1 (bR (goneL g.links (cutI g a b n j)))), (900, .arr 3 1 (iRow (cutI g a b n j)))]) (fun j => g.links.length - j) 0 (by omega) ?_ ?_
  · simp (disch := omega) only [go_sem, seval, reduceCtorEq, ↓reduceIte, beq_dec, Int.toNat_natCast, IntKind.signed, IntKind.bits, Int.natCast_zero, cutI, List.map_nil]
  · intro j hj
    have hcj := hcl j
    have hgl := goneL_len g.links (cutI g a b n j)
    have hidl : (idsG g).length = g.links.length := by simp [idsG]
    rcases Nat.lt_or_ge j g.links.length with hjl | hjl
    · have e1 : ((j : Int) < (g.links.length : Int)) = True := eq_true (by omega)
      have hge := getD_map (fun b : Bool => [CD.B b]) (goneL g.links (cutI g a b n j)) j [] (by omega)
      have hgid : nth (idsG g) j = (nth g.links j).id := by rw [nth_eq _ j (by omega), nth_eq _ j hjl]; simp [idsG]
      have hs1 := goneL_set hids (cutI g a b n j) hjl
      have hs2 := goneL_back hids hjl (hcn j hjl)
      have gl2 := goneL_len g.links (cutI g a b n j ++ [(nth g.links j).id])
      have hge2 := getD_map (fun b : Bool => [CD.B b]) (goneL g.links (cutI g a b n j ++ [(nth g.links j).id])) j [] (by omega)
      have g35' := g35 (goneL g.links (cutI g a b n j ++ [(nth g.links j).id])) gl2
      have hsuc : cutI g a b n (j + 1) = if ((cutI g a b n j).length : Int) < n ∧ flowM g (goneL g.links (cutI g a b n j ++ [(nth g.links j).id])) a b < n - (cutI g a b n j).length then cutI g a b n j ++ [(nth g.links j).id] else cutI g a b n j := rfl
      by_cases hln : ((cutI g a b n j).length : Int) < n
      · have e2 : (((cutI g a b n j).length : Int) < n) = True := eq_true hln
        generalize flowM g (goneL g.links (cutI g a b n j ++ [(nth g.links j).id])) a b = z at *
        (repeat' (first | refine NextAt.mk (fun hc => ?_) (fun pre n v post hc hkey => ?_) | refine Sni.mk (fun hc => ?_) ?_ | refine Both.mk ?_ ?_ | refine AW_seq ?_ | refine AW_block ?_ | ((first | refine AW_reg ?_ | refine AW_cond ?_ | refine AW_skip ?_ | refine AW_exit ?_ | refine AW_ret ?_ | refine AW_regD (by kernel_rfl) ?_ | refine AW_regX (by kernel_rfl) ?_ | refine CallAtG.t (Eq.refl true) ?_ | refine CallAtG.f (Eq.refl false) ?_ | refine CallAt.mk _ (g35' ..) (by first | (intro h; cases h; done) | (intro _; repeat' (first | exact List.forall_mem_nil _ | trivial | refine List.forall_mem_cons.2 ⟨?_, ?_⟩)) | (intro _; simp [RV.flatP, CD.flatP, List.length_map, e1, e2, hgl, gl2, hge, hge2, List.set_cons_zero, bR_setT, hs1, hs2, hidl, getD_map (fun x : Int => [CD.I x]), hgid, Int.toNat_natCast, inK, maxLen]; done)) ?_ | refine CallAtG.mk _ (fun _ => g35' ..) ?_ | refine CallDS.mk _ (by simp [RV.data]) (fun _ => g35' ..) (by first | (intro h; cases h; done) | (intro _; repeat' (first | exact List.forall_mem_nil _ | trivial | refine List.forall_mem_cons.2 ⟨?_, ?_⟩)) | (intro _; simp [RV.flatP, CD.flatP, List.length_map, e1, e2, hgl, gl2, hge, hge2, List.set_cons_zero, bR_setT, hs1, hs2, hidl, getD_map (fun x : Int => [CD.I x]), hgid, Int.toNat_natCast, inK, maxLen]; done)) ?_); try simp (disch := omega) only [go_sem, seval, reduceCtorEq, ↓reduceIte, beq_dec, Int.toNat_natCast, IntKind.signed, IntKind.bits, List.length_map, e1, e2, hgl, gl2, hge, hge2, List.set_cons_zero, bR_setT, hs1, hs2, hidl, getD_map (fun x : Int => [CD.I x]), hgid, Int.toNat_natCast, inK, maxLen]) | refine And.intro (fun hc => (?_ : AW _ _ _ _)) (fun hc => (?_ : AW _ _ _ _)) | simp (disch := omega) only [go_sem, seval, reduceCtorEq, ↓reduceIte, beq_dec, Int.toNat_natCast, IntKind.signed, IntKind.bits, List.length_map, e1, e2, hgl, gl2, hge, hge2, List.set_cons_zero, bR_setT, hs1, hs2, hidl, getD_map (fun x : Int => [CD.I x]), hgid, Int.toNat_natCast, inK, maxLen] | (refine And.intro ?_ ?_; focus (first | (intros; omega) | (intros; simp_all; done))) | refine And.intro (?_ : CallAt _ _ _ _ _ _ _ _) ?_ | refine And.intro (?_ : CallAt _ _ _ _ _ _ _ _ ∧ _) ?_ | refine And.intro (?_ : AW _ _ _ _) ?_ | fail))
        · refine .mk (j + 1) (by omega) (by omega) ?_
          rw [hsuc, if_pos ⟨hln, by assumption⟩, iRow_app']
          simp (disch := omega) only [go_sem, seval, reduceCtorEq, ↓reduceIte, beq_dec, Int.toNat_natCast, IntKind.signed, IntKind.bits, Int.natCast_add, Int.natCast_one]
        · refine .mk (j + 1) (by omega) (by omega) ?_
          rw [hsuc, if_neg (fun h' => by have := h'.2; omega)]
          simp (disch := omega) only [go_sem, seval, reduceCtorEq, ↓reduceIte, beq_dec, Int.toNat_natCast, IntKind.signed, IntKind.bits, Int.natCast_add, Int.natCast_one]
      · have e2 : (((cutI g a b n j).length : Int) < n) = False := eq_false hln
        have hst := cutI_stop g a b n hln g.links.length hj
        rw [hst]
        (repeat' (first | refine NextAt.mk (fun hc => ?_) (fun pre n v post hc hkey => ?_) | refine Sni.mk (fun hc => ?_) ?_ | refine Both.mk ?_ ?_ | refine AW_seq ?_ | refine AW_block ?_ | ((first | refine AW_reg ?_ | refine AW_cond ?_ | refine AW_skip ?_ | refine AW_exit ?_ | refine AW_ret ?_ | refine AW_regD (by kernel_rfl) ?_ | refine AW_regX (by kernel_rfl) ?_ | refine CallAtG.t (Eq.refl true) ?_ | refine CallAtG.f (Eq.refl false) ?_); try simp (disch := omega) only [go_sem, seval, reduceCtorEq, ↓reduceIte, beq_dec, Int.toNat_natCast, IntKind.signed, IntKind.bits, List.length_map, e1, e2, hgl, hidl]) | refine And.intro (fun hc => (?_ : AW _ _ _ _)) (fun hc => (?_ : AW _ _ _ _)) | simp (disch := omega) only [go_sem, seval, reduceCtorEq, ↓reduceIte, beq_dec, Int.toNat_natCast, IntKind.signed, IntKind.bits, List.length_map, e1, e2, hgl, hidl] | (refine And.intro ?_ ?_; focus (first | (intros; omega) | (intros; simp_all; done))) | refine And.intro (?_ : CallAt _ _ _ _ _ _ _ _) ?_ | refine And.intro (?_ : CallAt _ _ _ _ _ _ _ _ ∧ _) ?_ | refine And.intro (?_ : AW _ _ _ _) ?_ | fail))
        all_goals trace_state
    · obtain rfl : j = g.links.length := by omega
      have e1 : ((g.links.length : Int) < (g.links.length : Int)) = False := eq_false (by omega)
      (repeat' (first | refine NextAt.mk (fun hc => ?_) (fun pre n v post hc hkey => ?_) | refine Sni.mk (fun hc => ?_) ?_ | refine Both.mk ?_ ?_ | refine AW_seq ?_ | refine AW_block ?_ | ((first | refine AW_reg ?_ | refine AW_cond ?_ | refine AW_skip ?_ | refine AW_exit ?_ | refine AW_ret ?_ | refine AW_regD (by kernel_rfl) ?_ | refine AW_regX (by kernel_rfl) ?_ | refine CallAtG.t (Eq.refl true) ?_ | refine CallAtG.f (Eq.refl false) ?_); try simp (disch := omega) only [go_sem, seval, reduceCtorEq, ↓reduceIte, beq_dec, Int.toNat_natCast, IntKind.signed, IntKind.bits, List.length_map, e1, hidl]) | refine And.intro (fun hc => (?_ : AW _ _ _ _)) (fun hc => (?_ : AW _ _ _ _)) | simp (disch := omega) only [go_sem, seval, reduceCtorEq, ↓reduceIte, beq_dec, Int.toNat_natCast, IntKind.signed, IntKind.bits, List.length_map, e1, hidl] | (refine And.intro ?_ ?_; focus (first | (intros; omega) | (intros; simp_all; done))) | refine And.intro (?_ : CallAt _ _ _ _ _ _ _ _) ?_ | refine And.intro (?_ : CallAt _ _ _ _ _ _ _ _ ∧ _) ?_ | refine And.intro (?_ : AW _ _ _ _) ?_ | fail))
      all_goals trace_state
end Go.Proofs.Ytgldpbghbkoolaa

-- P p_15.txt
open Go Go.AL Go.RowKit
namespace Go.Proofs.Ytgldpbghbkoolaa
set_option maxRecDepth 20000
def in15 (g : Gr) (a b : Die) (n j : Int) (l : List Die) (out : List Int) : St := ⟨72, [(3, .ptr 3 0), (4, .ptr 4 0), (5, .ptr 5 0), (8, .I n), (10, .own 27), (12, .c (Row out)), (13, .I j)], [(3, .box 25 [.c (Row g.obv), .c (Row g.rev), .c (LL g.links)]), (4, .box 27 [.I a.side, .I a.num]), (5, .box 27 [.I b.side, .I b.num]), (27, .arr 27 2 (l.map Die.cd))]⟩
def ou15 (g : Gr) (a b : Die) (n j : Int) (l : List Die) (out : List Int) (x : Int) : St := ⟨72, [(3, .ptr 3 0), (4, .ptr 4 0), (5, .ptr 5 0), (8, .I n), (10, .own 27), (12, .c (Row out)), (13, .I j), (14, .own 37)], [(3, .box 25 [.c (Row g.obv), .c (Row g.rev), .c (LL g.links)]), (4, .box 27 [.I a.side, .I a.num]), (5, .box 27 [.I b.side, .I b.num]), (27, .arr 27 2 (l.map Die.cd)), (37, .arr 3 1 (iRow out ++ [[.I x]]))]⟩
set_option maxHeartbeats 8000000 in
theorem r15 (g : Gr) (a b : Die) (n : Int) (j : Nat) (l : List Die) (out : List Int) (ho : out.length ≤ 1000) (hj : j < g.links.length) : AW Try.prog c15_14 (cutQ (ou15 g a b n j l out (nth g.links j).id)) (in15 g a b n j l out) := by
  refine AW_regX (by kernel_rfl) ?_
  unfold in15
  (repeat' (first | refine NextAt.mk (fun hc => ?_) (fun pre n v post hc hkey => ?_) | refine Sni.mk (fun hc => ?_) ?_ | refine Both.mk ?_ ?_ | refine AW_seq ?_ | refine AW_block ?_ | ((first | refine AW_reg ?_ | refine AW_cond ?_ | refine AW_skip ?_ | refine AW_exit ?_ | refine AW_ret ?_ | refine AW_regD (by kernel_rfl) ?_ | refine AW_regX (by kernel_rfl) ?_ | refine CallAtG.t (Eq.refl true) ?_ | refine CallAtG.f (Eq.refl false) ?_); try simp (disch := omega) only [go_sem, seval, reduceCtorEq, ↓reduceIte, beq_dec, Int.toNat_natCast, IntKind.signed, IntKind.bits, ou15, List.length_map, List.length_append, List.length_cons, List.length_nil, maxLen, List.nil_append, getD_map Lk.cd, Lk.cd]) | refine And.intro (fun hc => (?_ : AW _ _ _ _)) (fun hc => (?_ : AW _ _ _ _)) | simp (disch := omega) only [go_sem, seval, reduceCtorEq, ↓reduceIte, beq_dec, Int.toNat_natCast, IntKind.signed, IntKind.bits, ou15, List.length_map, List.length_append, List.length_cons, List.length_nil, maxLen, List.nil_append, getD_map Lk.cd, Lk.cd] | (refine And.intro ?_ ?_; focus (first | (intros; omega) | (intros; simp_all; done))) | refine And.intro (?_ : CallAt _ _ _ _ _ _ _ _) ?_ | refine And.intro (?_ : CallAt _ _ _ _ _ _ _ _ ∧ _) ?_ | refine And.intro (?_ : AW _ _ _ _) ?_ | refine And.intro (?_ : _ ∧ _) ?_ | fail))
  all_goals first
    | omega
    | (refine ⟨?_, ?_⟩ <;> omega)
    | trace_state
theorem hold15 {Q : Exit → St → Prop} {σ : St} (h : Hold (AW Try.prog c15_14 Q σ)) : AW Try.prog c15_14 Q σ := h.out
theorem n15e (g : Gr) (a b : Die) (h : flowE g a b ≠ 0) : FnR Try.prog 15 [g.av, a.av, b.av] [.c .nil, .c (.I (flowE g a b))] := by
  have g14 := n14 g a b
  rw [flowV_err h] at g14
  generalize flowE g a b = e at *
  refine fn_walk code15 (by simp) ?_
  (repeat' (first | refine NextAt.mk (fun hc => ?_) (fun pre n v post hc hkey => ?_) | refine Sni.mk (fun hc => ?_) ?_ | refine Both.mk ?_ ?_ | refine AW_seq ?_ | refine AW_block ?_ | ((first | refine AW_reg ?_ | refine AW_cond ?_ | refine AW_skip ?_ | refine AW_exit ?_ | refine AW_ret ?_ | refine AW_regD (by kernel_rfl) ?_ | refine AW_regX (by kernel_rfl) ?_ | refine CallAtG.t (Eq.refl true) ?_ | refine CallAtG.f (Eq.refl false) ?_ | refine CallAt.mk _ (g14 ..) (by first | (intro h; cases h; done) | (intro _; repeat' (first | exact List.forall_mem_nil _ | trivial | refine List.forall_mem_cons.2 ⟨?_, ?_⟩)) | (intro _; simp [RV.flatP, CD.flatP]; done)) ?_ | refine CallAtG.mk _ (fun _ => g14 ..) ?_ | refine CallDS.mk _ (by simp [RV.data]) (fun _ => g14 ..) (by first | (intro h; cases h; done) | (intro _; repeat' (first | exact List.forall_mem_nil _ | trivial | refine List.forall_mem_cons.2 ⟨?_, ?_⟩)) | (intro _; simp [RV.flatP, CD.flatP]; done)) ?_); try simp (disch := omega) only [go_sem, seval, reduceCtorEq, ↓reduceIte, beq_dec, Int.toNat_natCast, IntKind.signed, IntKind.bits]) | refine And.intro (fun hc => (?_ : AW _ _ _ _)) (fun hc => (?_ : AW _ _ _ _)) | simp (disch := omega) only [go_sem, seval, reduceCtorEq, ↓reduceIte, beq_dec, Int.toNat_natCast, IntKind.signed, IntKind.bits] | (refine And.intro ?_ ?_; focus (first | (intros; omega) | (intros; simp_all; done))) | refine And.intro (?_ : CallAt _ _ _ _ _ _ _ _) ?_ | refine And.intro (?_ : CallAt _ _ _ _ _ _ _ _ ∧ _) ?_ | refine And.intro (?_ : AW _ _ _ _) ?_ | fail))
  all_goals (exact absurd (by assumption) h)
set_option maxHeartbeats 8000000 in
theorem n15 (g : Gr) (a b : Die) (h : flowE g a b = 0) : FnR Try.prog 15 [g.av, a.av, b.av] [.c (Row (cutV g a b)), .c (.I 0)] := by
  have g14 := n14 g a b
  obtain ⟨hv, ha, hb, hab⟩ := flowE_zero.1 h
  have hok := okV_iff.2 ⟨ha, hb, hab⟩
  have hsm := valid_small hv
  have g37 := f37 g
  rw [dies_valid hv, errV_valid hv] at g37
  have hV : flowV g a b = flowM g (noG g) a b := by unfold flowV; rw [if_pos h]
  have hbn := flowV_nonneg g a b
  have e2 : cutV g a b = cutI g a b (flowM g (noG g) a b) g.links.length := by unfold cutV; rw [if_pos h]
  have ga := f40 (diesG g) a
  have gb := f40 (diesG g) b
  rw [plc_nat ha] at ga
  rw [plc_nat hb] at gb
  rw [h, hV] at g14
  rw [hV] at hbn
  rw [e2]
  have hcl := cutI_len g a b (flowM g (noG g) a b)
  have href := fun j hj => cutI_ref hv ha hb hab (j := j) hj
  have g38 := fun out => n38g g out a b hv hok
  generalize hN : flowM g (noG g) a b = n at *
  refine fn_walk code15 (by simp) ?_
  (repeat' (first | refine NextAt.mk (fun hc => ?_) (fun pre n v post hc hkey => ?_) | refine Sni.mk (fun hc => ?_) ?_ | refine Both.mk ?_ ?_ | refine AW_seq ?_ | refine AW_block ?_ | ((first | refine AW_reg ?_ | refine AW_cond ?_ | refine AW_skip ?_ | refine AW_exit ?_ | refine AW_ret ?_ | refine AW_regD (by kernel_rfl) ?_ | refine AW_regX (by kernel_rfl) ?_ | refine CallAtG.t (Eq.refl true) ?_ | refine CallAtG.f (Eq.refl false) ?_ | refine CallAt.mk _ (g14 ..) (by first | (intro h; cases h; done) | (intro _; repeat' (first | exact List.forall_mem_nil _ | trivial | refine List.forall_mem_cons.2 ⟨?_, ?_⟩)) | (intro _; simp [RV.flatP, CD.flatP, List.length_map, maxLen]; done)) ?_ | refine CallAtG.mk _ (fun _ => g14 ..) ?_ | refine CallDS.mk _ (by simp [RV.data]) (fun _ => g14 ..) (by first | (intro h; cases h; done) | (intro _; repeat' (first | exact List.forall_mem_nil _ | trivial | refine List.forall_mem_cons.2 ⟨?_, ?_⟩)) | (intro _; simp [RV.flatP, CD.flatP, List.length_map, maxLen]; done)) ?_ | refine CallAt.mk _ (g37 ..) (by first | (intro h; cases h; done) | (intro _; repeat' (first | exact List.forall_mem_nil _ | trivial | refine List.forall_mem_cons.2 ⟨?_, ?_⟩)) | (intro _; simp [RV.flatP, CD.flatP, List.length_map, maxLen]; done)) ?_ | refine CallAtG.mk _ (fun _ => g37 ..) ?_ | refine CallDS.mk _ (by simp [RV.data]) (fun _ => g37 ..) (by first | (intro h; cases h; done) | (intro _; repeat' (first | exact List.forall_mem_nil _ | trivial | refine List.forall_mem_cons.2 ⟨?_, ?_⟩)) | (intro _; simp [RV.flatP, CD.flatP, List.length_map, maxLen]; done)) ?_); try simp (disch := omega) only [go_sem, seval, reduceCtorEq, ↓reduceIte, beq_dec, Int.toNat_natCast, IntKind.signed, IntKind.bits, List.length_map, maxLen]) | refine And.intro (fun hc => (?_ : AW _ _ _ _)) (fun hc => (?_ : AW _ _ _ _)) | simp (disch := omega) only [go_sem, seval, reduceCtorEq, ↓reduceIte, beq_dec, Int.toNat_natCast, IntKind.signed, IntKind.bits, List.length_map, maxLen] | (refine And.intro ?_ ?_; focus (first | (intros; omega) | (intros; simp_all; done))) | refine And.intro (?_ : CallAt _ _ _ _ _ _ _ _) ?_ | refine And.intro (?_ : CallAt _ _ _ _ _ _ _ _ ∧ _) ?_ | refine And.intro (?_ : AW _ _ _ _) ?_ | fail))
  refine AW_up 12 .nil (.sl 1 []) (by rfl) (fun w S v => Rd.nil_sl 1) ?_
  simp (disch := omega) only [go_sem, seval, reduceCtorEq, ↓reduceIte, beq_dec, Int.toNat_natCast, IntKind.signed, IntKind.bits]
  refine AW_loopK [3, 4, 5, 8, 10] [12, 13, 14, 30, 31, 32, 33, 34, 35, 36, 37, 38, 39, 40, 41, 42, 43, 44, 45, 46, 47, 48, 49, 50, 51, 52, 53, 54, 55, 56, 57, 58, 59, 60, 61, 62, 63, 64, 65, 66, 67, 68, 69, 70] (fun j : Nat => j ≤ g.links.length) (fun j => [(13, .I j), (12, .c (Row (cutI g a b n j)))]) (fun _ => []) (fun j => g.links.length - j) 0 (by omega) ?_ ?_
  · simp (disch := omega) only [go_sem, seval, reduceCtorEq, ↓reduceIte, beq_dec, Int.toNat_natCast, IntKind.signed, IntKind.bits, Int.natCast_zero, cutI, List.map_nil]
    rfl
  · intro j hj
    have hcj := hcl j
    rcases Nat.lt_or_ge j g.links.length with hjl | hjl
    · have hr := href j hjl
      have g38' := g38 (cutI g a b n j ++ [(nth g.links j).id])
      have hsuc : cutI g a b n (j + 1) = if ((cutI g a b n j).length : Int) < n ∧ flowM g (goneL g.links (cutI g a b n j ++ [(nth g.links j).id])) a b < n - (cutI g a b n j).length then cutI g a b n j ++ [(nth g.links j).id] else cutI g a b n j := rfl
      generalize flowM g (goneL g.links (cutI g a b n j ++ [(nth g.links j).id])) a b = z at *
      generalize cutI g a b n j = out at *
      (repeat' (first | (with_reducible refine hold15 ?_; try simp (disch := omega) only [go_sem, seval, reduceCtorEq, ↓reduceIte, beq_dec, Int.toNat_natCast, IntKind.signed, IntKind.bits, List.length_map]) | refine NextAt.mk (fun hc => ?_) (fun pre n v post hc hkey => ?_) | refine Sni.mk (fun hc => ?_) ?_ | refine Both.mk ?_ ?_ | refine AW_seq ?_ | refine AW_block ?_ | ((first | refine AW_reg ?_ | refine AW_cond ?_ | refine AW_skip ?_ | refine AW_exit ?_ | refine AW_ret ?_ | refine AW_regD (by kernel_rfl) ?_ | refine AW_regX (by kernel_rfl) ?_ | refine CallAtG.t (Eq.refl true) ?_ | refine CallAtG.f (Eq.refl false) ?_); try simp (disch := omega) only [go_sem, seval, reduceCtorEq, ↓reduceIte, beq_dec, Int.toNat_natCast, IntKind.signed, IntKind.bits, List.length_map]) | refine And.intro (fun hc => (?_ : AW _ _ _ _)) (fun hc => (?_ : AW _ _ _ _)) | simp (disch := omega) only [go_sem, seval, reduceCtorEq, ↓reduceIte, beq_dec, Int.toNat_natCast, IntKind.signed, IntKind.bits, List.length_map] | (refine And.intro ?_ ?_; focus (first | (intros; omega) | (intros; simp_all; done))) | refine And.intro (?_ : CallAt _ _ _ _ _ _ _ _) ?_ | refine And.intro (?_ : CallAt _ _ _ _ _ _ _ _ ∧ _) ?_ | refine And.intro (?_ : AW _ _ _ _) ?_ | fail))
      · refine ⟨AW_cut (ou15 g a b n j (diesG g) out (nth g.links j).id) (in15 g a b n j (diesG g) out) (r15 g a b n j (diesG g) out (by omega) hjl) ?_ ?_⟩
        · unfold in15
          simp (disch := omega) only [go_sem, seval, reduceCtorEq, ↓reduceIte, beq_dec, Int.toNat_natCast, IntKind.signed, IntKind.bits]
        · unfold ou15
          rw [← iRow_app']
          refine AW_frz [37] ?_
          simp (disch := omega) only [go_sem, seval, reduceCtorEq, ↓reduceIte, beq_dec, Int.toNat_natCast, IntKind.signed, IntKind.bits]
          by_cases hln : (out.length : Int) < n
          · have e2 : ((out.length : Int) < n) = True := eq_true hln
            (repeat' (first | refine NextAt.mk (fun hc => ?_) (fun pre n v post hc hkey => ?_) | refine Sni.mk (fun hc => ?_) ?_ | refine Both.mk ?_ ?_ | refine AW_seq ?_ | refine AW_block ?_ | ((first | refine AW_reg ?_ | refine AW_cond ?_ | refine AW_skip ?_ | refine AW_exit ?_ | refine AW_ret ?_ | refine AW_regD (by kernel_rfl) ?_ | refine AW_regX (by kernel_rfl) ?_ | refine CallAtG.t (Eq.refl true) ?_ | refine CallAtG.f (Eq.refl false) ?_ | refine CallAt.mk _ (ga ..) (by first | (intro h; cases h; done) | (intro _; repeat' (first | exact List.forall_mem_nil _ | trivial | refine List.forall_mem_cons.2 ⟨?_, ?_⟩)) | (intro _; simp [RV.flatP, CD.flatP, List.length_map, List.length_append, List.length_cons, List.length_nil, e2, inK, Die.cd]; done)) ?_ | refine CallAtG.mk _ (fun _ => ga ..) ?_ | refine CallDS.mk _ (by simp [RV.data]) (fun _ => ga ..) (by first | (intro h; cases h; done) | (intro _; repeat' (first | exact List.forall_mem_nil _ | trivial | refine List.forall_mem_cons.2 ⟨?_, ?_⟩)) | (intro _; simp [RV.flatP, CD.flatP, List.length_map, List.length_append, List.length_cons, List.length_nil, e2, inK, Die.cd]; done)) ?_ | refine CallAt.mk _ (gb ..) (by first | (intro h; cases h; done) | (intro _; repeat' (first | exact List.forall_mem_nil _ | trivial | refine List.forall_mem_cons.2 ⟨?_, ?_⟩)) | (intro _; simp [RV.flatP, CD.flatP, List.length_map, List.length_append, List.length_cons, List.length_nil, e2, inK, Die.cd]; done)) ?_ | refine CallAtG.mk _ (fun _ => gb ..) ?_ | refine CallDS.mk _ (by simp [RV.data]) (fun _ => gb ..) (by first | (intro h; cases h; done) | (intro _; repeat' (first | exact List.forall_mem_nil _ | trivial | refine List.forall_mem_cons.2 ⟨?_, ?_⟩)) | (intro _; simp [RV.flatP, CD.flatP, List.length_map, List.length_append, List.length_cons, List.length_nil, e2, inK, Die.cd]; done)) ?_ | refine CallAt.mk _ (g38' ..) (by first | (intro h; cases h; done) | (intro _; repeat' (first | exact List.forall_mem_nil _ | trivial | refine List.forall_mem_cons.2 ⟨?_, ?_⟩)) | (intro _; simp [RV.flatP, CD.flatP, List.length_map, List.length_append, List.length_cons, List.length_nil, e2, inK, Die.cd]; done)) ?_ | refine CallAtG.mk _ (fun _ => g38' ..) ?_ | refine CallDS.mk _ (by simp [RV.data]) (fun _ => g38' ..) (by first | (intro h; cases h; done) | (intro _; repeat' (first | exact List.forall_mem_nil _ | trivial | refine List.forall_mem_cons.2 ⟨?_, ?_⟩)) | (intro _; simp [RV.flatP, CD.flatP, List.length_map, List.length_append, List.length_cons, List.length_nil, e2, inK, Die.cd]; done)) ?_); try simp (disch := omega) only [go_sem, seval, reduceCtorEq, ↓reduceIte, beq_dec, Int.toNat_natCast, IntKind.signed, IntKind.bits, List.length_map, List.length_append, List.length_cons, List.length_nil, e2, inK, Die.cd]) | refine And.intro (fun hc => (?_ : AW _ _ _ _)) (fun hc => (?_ : AW _ _ _ _)) | simp (disch := omega) only [go_sem, seval, reduceCtorEq, ↓reduceIte, beq_dec, Int.toNat_natCast, IntKind.signed, IntKind.bits, List.length_map, List.length_append, List.length_cons, List.length_nil, e2, inK, Die.cd] | (refine And.intro ?_ ?_; focus (first | (intros; omega) | (intros; simp_all; done))) | refine And.intro (?_ : CallAt _ _ _ _ _ _ _ _) ?_ | refine And.intro (?_ : CallAt _ _ _ _ _ _ _ _ ∧ _) ?_ | refine And.intro (?_ : AW _ _ _ _) ?_ | fail))
            · refine .mk (j + 1) (by omega) (by omega) ?_
              rw [hsuc, if_pos ⟨hln, hr.2 (by assumption)⟩]
              simp (disch := omega) only [go_sem, seval, reduceCtorEq, ↓reduceIte, beq_dec, Int.toNat_natCast, IntKind.signed, IntKind.bits, Int.natCast_add, Int.natCast_one]
            · refine .mk (j + 1) (by omega) (by omega) ?_
              rw [hsuc, if_neg (fun h' => by have := hr.1 h'.2; contradiction)]
              simp (disch := omega) only [go_sem, seval, reduceCtorEq, ↓reduceIte, beq_dec, Int.toNat_natCast, IntKind.signed, IntKind.bits, Int.natCast_add, Int.natCast_one]
          · have e2 : ((out.length : Int) < n) = False := eq_false hln
            (repeat' (first | refine NextAt.mk (fun hc => ?_) (fun pre n v post hc hkey => ?_) | refine Sni.mk (fun hc => ?_) ?_ | refine Both.mk ?_ ?_ | refine AW_seq ?_ | refine AW_block ?_ | ((first | refine AW_reg ?_ | refine AW_cond ?_ | refine AW_skip ?_ | refine AW_exit ?_ | refine AW_ret ?_ | refine AW_regD (by kernel_rfl) ?_ | refine AW_regX (by kernel_rfl) ?_ | refine CallAtG.t (Eq.refl true) ?_ | refine CallAtG.f (Eq.refl false) ?_ | refine CallAt.mk _ (ga ..) (by first | (intro h; cases h; done) | (intro _; repeat' (first | exact List.forall_mem_nil _ | trivial | refine List.forall_mem_cons.2 ⟨?_, ?_⟩)) | (intro _; simp [RV.flatP, CD.flatP, List.length_map, List.length_append, List.length_cons, List.length_nil, e2, inK, Die.cd]; done)) ?_ | refine CallAtG.mk _ (fun _ => ga ..) ?_ | refine CallDS.mk _ (by simp [RV.data]) (fun _ => ga ..) (by first | (intro h; cases h; done) | (intro _; repeat' (first | exact List.forall_mem_nil _ | trivial | refine List.forall_mem_cons.2 ⟨?_, ?_⟩)) | (intro _; simp [RV.flatP, CD.flatP, List.length_map, List.length_append, List.length_cons, List.length_nil, e2, inK, Die.cd]; done)) ?_ | refine CallAt.mk _ (gb ..) (by first | (intro h; cases h; done) | (intro _; repeat' (first | exact List.forall_mem_nil _ | trivial | refine List.forall_mem_cons.2 ⟨?_, ?_⟩)) | (intro _; simp [RV.flatP, CD.flatP, List.length_map, List.length_append, List.length_cons, List.length_nil, e2, inK, Die.cd]; done)) ?_ | refine CallAtG.mk _ (fun _ => gb ..) ?_ | refine CallDS.mk _ (by simp [RV.data]) (fun _ => gb ..) (by first | (intro h; cases h; done) | (intro _; repeat' (first | exact List.forall_mem_nil _ | trivial | refine List.forall_mem_cons.2 ⟨?_, ?_⟩)) | (intro _; simp [RV.flatP, CD.flatP, List.length_map, List.length_append, List.length_cons, List.length_nil, e2, inK, Die.cd]; done)) ?_ | refine CallAt.mk _ (g38' ..) (by first | (intro h; cases h; done) | (intro _; repeat' (first | exact List.forall_mem_nil _ | trivial | refine List.forall_mem_cons.2 ⟨?_, ?_⟩)) | (intro _; simp [RV.flatP, CD.flatP, List.length_map, List.length_append, List.length_cons, List.length_nil, e2, inK, Die.cd]; done)) ?_ | refine CallAtG.mk _ (fun _ => g38' ..) ?_ | refine CallDS.mk _ (by simp [RV.data]) (fun _ => g38' ..) (by first | (intro h; cases h; done) | (intro _; repeat' (first | exact List.forall_mem_nil _ | trivial | refine List.forall_mem_cons.2 ⟨?_, ?_⟩)) | (intro _; simp [RV.flatP, CD.flatP, List.length_map, List.length_append, List.length_cons, List.length_nil, e2, inK, Die.cd]; done)) ?_); try simp (disch := omega) only [go_sem, seval, reduceCtorEq, ↓reduceIte, beq_dec, Int.toNat_natCast, IntKind.signed, IntKind.bits, List.length_map, List.length_append, List.length_cons, List.length_nil, e2, inK, Die.cd]) | refine And.intro (fun hc => (?_ : AW _ _ _ _)) (fun hc => (?_ : AW _ _ _ _)) | simp (disch := omega) only [go_sem, seval, reduceCtorEq, ↓reduceIte, beq_dec, Int.toNat_natCast, IntKind.signed, IntKind.bits, List.length_map, List.length_append, List.length_cons, List.length_nil, e2, inK, Die.cd] | (refine And.intro ?_ ?_; focus (first | (intros; omega) | (intros; simp_all; done))) | refine And.intro (?_ : CallAt _ _ _ _ _ _ _ _) ?_ | refine And.intro (?_ : CallAt _ _ _ _ _ _ _ _ ∧ _) ?_ | refine And.intro (?_ : AW _ _ _ _) ?_ | fail))
            refine .mk (j + 1) (by omega) (by omega) ?_
            rw [hsuc, if_neg (fun h' => hln h'.1)]
            simp (disch := omega) only [go_sem, seval, reduceCtorEq, ↓reduceIte, beq_dec, Int.toNat_natCast, IntKind.signed, IntKind.bits, Int.natCast_add, Int.natCast_one]
      · exfalso; omega
    · obtain rfl : j = g.links.length := by omega
      (repeat' (first | refine NextAt.mk (fun hc => ?_) (fun pre n v post hc hkey => ?_) | refine Sni.mk (fun hc => ?_) ?_ | refine Both.mk ?_ ?_ | refine AW_seq ?_ | refine AW_block ?_ | ((first | refine AW_reg ?_ | refine AW_cond ?_ | refine AW_skip ?_ | refine AW_exit ?_ | refine AW_ret ?_ | refine AW_regD (by kernel_rfl) ?_ | refine AW_regX (by kernel_rfl) ?_ | refine CallAtG.t (Eq.refl true) ?_ | refine CallAtG.f (Eq.refl false) ?_); try simp (disch := omega) only [go_sem, seval, reduceCtorEq, ↓reduceIte, beq_dec, Int.toNat_natCast, IntKind.signed, IntKind.bits, List.length_map]) | refine And.intro (fun hc => (?_ : AW _ _ _ _)) (fun hc => (?_ : AW _ _ _ _)) | simp (disch := omega) only [go_sem, seval, reduceCtorEq, ↓reduceIte, beq_dec, Int.toNat_natCast, IntKind.signed, IntKind.bits, List.length_map] | (refine And.intro ?_ ?_; focus (first | (intros; omega) | (intros; simp_all; done))) | refine And.intro (?_ : CallAt _ _ _ _ _ _ _ _) ?_ | refine And.intro (?_ : CallAt _ _ _ _ _ _ _ _ ∧ _) ?_ | refine And.intro (?_ : AW _ _ _ _) ?_ | fail))
      exfalso; omega
end Go.Proofs.Ytgldpbghbkoolaa

