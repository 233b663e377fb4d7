/-
  Lemmas for the proof: no statement of its own.
-/
import Derived.Test.YtlomngideedobaaWalkI
import Derived.KernelRfl
set_option linter.unusedVariables false
set_option linter.unusedSimpArgs false
-- P p_14.txt
open Go Go.AL Go.RowKit
namespace Go.Proofs.Ytlomngideedobaa
set_option maxRecDepth 20000
def nmL (l : List Die) (ps : List Int) (k : Int) (ls : List Lk) : List Lk := ls.filter fun x => decide (nth ps (plN l x.o) = k)
theorem nmL_take (l : List Die) (ps : List Int) (k : Int) (c : List Lk) (i : Nat) (h : i < c.length) : nmL l ps k (c.take (i + 1)) = nmL l ps k (c.take i) ++ if nth ps (plN l (nth c i).o) = k then [nth c i] else [] := by
  unfold nmL
  rw [List.take_succ_eq_append_getElem h, List.filter_append, nth_eq c i h]
  congr 1
  simp only [List.filter_cons, List.filter_nil, decide_eq_true_eq]
theorem nmL_len (l : List Die) (ps : List Int) (k : Int) (c : List Lk) (i : Nat) (h : i ≤ c.length) : (nmL l ps k (c.take i)).length ≤ i := by
  unfold nmL
  exact Nat.le_trans (List.length_filter_le _ _) (by simp; omega)
theorem hold30 {Q : Exit → St → Prop} {σ : St} (h : Hold (AW Try.prog c30_32 Q σ)) : AW Try.prog c30_32 Q σ := h.out
theorem f30e (g : Gr) (k : Int) (hv : validG g = false) : FnR Try.prog 30 [g.av, .I k] [.agg [.nil, .nil, .nil], .c (.I 1)] := by
  have g37 := f37 g
  have e0 : errV g = 1 := by unfold errV; rw [hv]; rfl
  rw [e0] at g37
  refine fn_walk code30 (by simp) ?_
  (repeat' (first | refine NextAt.mk (fun hc => ?_) (fun pre n v post hc hkey => ?_) | refine Sni.mk (fun hc => ?_) ?_ | refine Both.mk ?_ ?_ | refine AW_seq ?_ | refine AW_block ?_ | ((first | refine AW_reg ?_ | refine AW_cond ?_ | refine AW_skip ?_ | refine AW_exit ?_ | refine AW_ret ?_ | refine AW_regD (by kernel_rfl) ?_ | refine AW_regX (by kernel_rfl) ?_ | refine CallAtG.t (Eq.refl true) ?_ | refine CallAtG.f (Eq.refl false) ?_ | refine CallAt.mk _ (g37 ..) (by first | (intro h; cases h; done) | (intro _; repeat' (first | exact List.forall_mem_nil _ | trivial | refine List.forall_mem_cons.2 ⟨?_, ?_⟩)) | (intro _; simp [RV.flatP, CD.flatP]; done)) ?_ | refine CallAtG.mk _ (fun _ => g37 ..) ?_ | refine CallDS.mk _ (by simp [RV.data]) (fun _ => g37 ..) (by first | (intro h; cases h; done) | (intro _; repeat' (first | exact List.forall_mem_nil _ | trivial | refine List.forall_mem_cons.2 ⟨?_, ?_⟩)) | (intro _; simp [RV.flatP, CD.flatP]; done)) ?_); try simp (disch := omega) only [go_sem, seval, reduceCtorEq, ↓reduceIte, beq_dec, Int.toNat_natCast, IntKind.signed, IntKind.bits]) | refine And.intro (fun hc => (?_ : AW _ _ _ _)) (fun hc => (?_ : AW _ _ _ _)) | simp (disch := omega) only [go_sem, seval, reduceCtorEq, ↓reduceIte, beq_dec, Int.toNat_natCast, IntKind.signed, IntKind.bits] | (refine And.intro ?_ ?_; focus (first | (intros; omega) | (intros; simp_all; done))) | refine And.intro (?_ : CallAt _ _ _ _ _ _ _ _) ?_ | refine And.intro (?_ : CallAt _ _ _ _ _ _ _ _ ∧ _) ?_ | refine And.intro (?_ : AW _ _ _ _) ?_ | fail))
theorem f30n (g : Gr) (k : Int) (hv : validG g = true) (hk : k < 0 ∨ ((chG g).length : Int) ≤ k) : FnR Try.prog 30 [g.av, .I k] [.agg [.nil, .nil, .nil], .c (.I 7)] := by
  have g37 := f37 g
  have g43 := f43 g hv
  have e0 : errV g = 0 := by unfold errV; rw [hv]; rfl
  rw [e0] at g37
  refine fn_walk code30 (by simp) ?_
  rcases Int.lt_or_le k 0 with h0 | h0
  · have e1 : (k < 0) = True := by simp; omega
    (repeat' (first | refine NextAt.mk (fun hc => ?_) (fun pre n v post hc hkey => ?_) | refine Sni.mk (fun hc => ?_) ?_ | refine Both.mk ?_ ?_ | refine AW_seq ?_ | refine AW_block ?_ | ((first | refine AW_reg ?_ | refine AW_cond ?_ | refine AW_skip ?_ | refine AW_exit ?_ | refine AW_ret ?_ | refine AW_regD (by kernel_rfl) ?_ | refine AW_regX (by kernel_rfl) ?_ | refine CallAtG.t (Eq.refl true) ?_ | refine CallAtG.f (Eq.refl false) ?_ | refine CallAt.mk _ (g37 ..) (by first | (intro h; cases h; done) | (intro _; repeat' (first | exact List.forall_mem_nil _ | trivial | refine List.forall_mem_cons.2 ⟨?_, ?_⟩)) | (intro _; simp [RV.flatP, CD.flatP, e1]; done)) ?_ | refine CallAtG.mk _ (fun _ => g37 ..) ?_ | refine CallDS.mk _ (by simp [RV.data]) (fun _ => g37 ..) (by first | (intro h; cases h; done) | (intro _; repeat' (first | exact List.forall_mem_nil _ | trivial | refine List.forall_mem_cons.2 ⟨?_, ?_⟩)) | (intro _; simp [RV.flatP, CD.flatP, e1]; done)) ?_ | refine CallAt.mk _ (g43 ..) (by first | (intro h; cases h; done) | (intro _; repeat' (first | exact List.forall_mem_nil _ | trivial | refine List.forall_mem_cons.2 ⟨?_, ?_⟩)) | (intro _; simp [RV.flatP, CD.flatP, e1]; done)) ?_ | refine CallAtG.mk _ (fun _ => g43 ..) ?_ | refine CallDS.mk _ (by simp [RV.data]) (fun _ => g43 ..) (by first | (intro h; cases h; done) | (intro _; repeat' (first | exact List.forall_mem_nil _ | trivial | refine List.forall_mem_cons.2 ⟨?_, ?_⟩)) | (intro _; simp [RV.flatP, CD.flatP, e1]; done)) ?_); try simp (disch := omega) only [go_sem, seval, reduceCtorEq, ↓reduceIte, beq_dec, Int.toNat_natCast, IntKind.signed, IntKind.bits, e1]) | refine And.intro (fun hc => (?_ : AW _ _ _ _)) (fun hc => (?_ : AW _ _ _ _)) | simp (disch := omega) only [go_sem, seval, reduceCtorEq, ↓reduceIte, beq_dec, Int.toNat_natCast, IntKind.signed, IntKind.bits, e1] | (refine And.intro ?_ ?_; focus (first | (intros; omega) | (intros; simp_all; done))) | refine And.intro (?_ : CallAt _ _ _ _ _ _ _ _) ?_ | refine And.intro (?_ : CallAt _ _ _ _ _ _ _ _ ∧ _) ?_ | refine And.intro (?_ : AW _ _ _ _) ?_ | fail))
  · have e1 : (k < 0) = False := by simp; omega
    have e2 : (((chG g).length : Int) ≤ k) = True := by simp; omega
    (repeat' (first | refine NextAt.mk (fun hc => ?_) (fun pre n v post hc hkey => ?_) | refine Sni.mk (fun hc => ?_) ?_ | refine Both.mk ?_ ?_ | refine AW_seq ?_ | refine AW_block ?_ | ((first | refine AW_reg ?_ | refine AW_cond ?_ | refine AW_skip ?_ | refine AW_exit ?_ | refine AW_ret ?_ | refine AW_regD (by kernel_rfl) ?_ | refine AW_regX (by kernel_rfl) ?_ | refine CallAtG.t (Eq.refl true) ?_ | refine CallAtG.f (Eq.refl false) ?_ | refine CallAt.mk _ (g37 ..) (by first | (intro h; cases h; done) | (intro _; repeat' (first | exact List.forall_mem_nil _ | trivial | refine List.forall_mem_cons.2 ⟨?_, ?_⟩)) | (intro _; simp [RV.flatP, CD.flatP, e1, e2]; done)) ?_ | refine CallAtG.mk _ (fun _ => g37 ..) ?_ | refine CallDS.mk _ (by simp [RV.data]) (fun _ => g37 ..) (by first | (intro h; cases h; done) | (intro _; repeat' (first | exact List.forall_mem_nil _ | trivial | refine List.forall_mem_cons.2 ⟨?_, ?_⟩)) | (intro _; simp [RV.flatP, CD.flatP, e1, e2]; done)) ?_ | refine CallAt.mk _ (g43 ..) (by first | (intro h; cases h; done) | (intro _; repeat' (first | exact List.forall_mem_nil _ | trivial | refine List.forall_mem_cons.2 ⟨?_, ?_⟩)) | (intro _; simp [RV.flatP, CD.flatP, e1, e2]; done)) ?_ | refine CallAtG.mk _ (fun _ => g43 ..) ?_ | refine CallDS.mk _ (by simp [RV.data]) (fun _ => g43 ..) (by first | (intro h; cases h; done) | (intro _; repeat' (first | exact List.forall_mem_nil _ | trivial | refine List.forall_mem_cons.2 ⟨?_, ?_⟩)) | (intro _; simp [RV.flatP, CD.flatP, e1, e2]; done)) ?_); try simp (disch := omega) only [go_sem, seval, reduceCtorEq, ↓reduceIte, beq_dec, Int.toNat_natCast, IntKind.signed, IntKind.bits, e1, e2]) | refine And.intro (fun hc => (?_ : AW _ _ _ _)) (fun hc => (?_ : AW _ _ _ _)) | simp (disch := omega) only [go_sem, seval, reduceCtorEq, ↓reduceIte, beq_dec, Int.toNat_natCast, IntKind.signed, IntKind.bits, e1, e2] | (refine And.intro ?_ ?_; focus (first | (intros; omega) | (intros; simp_all; done))) | refine And.intro (?_ : CallAt _ _ _ _ _ _ _ _) ?_ | refine And.intro (?_ : CallAt _ _ _ _ _ _ _ _ ∧ _) ?_ | refine And.intro (?_ : AW _ _ _ _) ?_ | fail))
set_option maxHeartbeats 8000000 in
theorem f30v (g : Gr) (k : Nat) (hv : validG g = true) (hk : k < (chG g).length) : FnR Try.prog 30 [g.av, .I k] [.agg [Row (mdI (nmL (diesG g) (partsG g) k g.links)).obv, Row (mdI (nmL (diesG g) (partsG g) k g.links)).rev, LL (mdI (nmL (diesG g) (partsG g) k g.links)).links], .c (.I 0)] := by
  have g37 := f37 g
  have g43 := f43 g hv
  have g22 := f22 g
  have hc := chG_len hv
  have hsm := valid_small hv
  have hen := valid_ends hv
  have e0 : errV g = 0 := by unfold errV; rw [hv]; rfl
  have e2 : partsE g = partsG g := by unfold partsE; rw [hv]; rfl
  have hlen := dies_len g
  have hpl : (partsG g).length = (diesG g).length := by rw [partsG_pI]; exact (pI_len g.links _ _ (Nat.le_refl _)).1
  have g28 := f28 (nmL (diesG g) (partsG g) k g.links) (by have := nmL_len (diesG g) (partsG g) k g.links g.links.length (Nat.le_refl _); rw [List.take_length] at this; omega)
  rw [dies_valid hv, e0] at g37
  rw [e0, e2] at g22
  generalize diesG g = l at *
  generalize partsG g = ps at *
  refine fn_walk code30 (by simp) ?_
  have e1 : ((k : Int) < 0) = False := by simp
  have e3 : (((chG g).length : Int) ≤ (k : Int)) = False := by simp; omega
  (repeat' (first | refine NextAt.mk (fun hc => ?_) (fun pre n v post hc hkey => ?_) | refine Sni.mk (fun hc => ?_) ?_ | refine Both.mk ?_ ?_ | refine AW_seq ?_ | refine AW_block ?_ | ((first | refine AW_reg ?_ | refine AW_cond ?_ | refine AW_skip ?_ | refine AW_exit ?_ | refine AW_ret ?_ | refine AW_regD (by kernel_rfl) ?_ | refine AW_regX (by kernel_rfl) ?_ | refine CallAtG.t (Eq.refl true) ?_ | refine CallAtG.f (Eq.refl false) ?_ | refine CallAt.mk _ (g37 ..) (by first | (intro h; cases h; done) | (intro _; repeat' (first | exact List.forall_mem_nil _ | trivial | refine List.forall_mem_cons.2 ⟨?_, ?_⟩)) | (intro _; simp [RV.flatP, CD.flatP, List.length_map, e1, e3]; done)) ?_ | refine CallAtG.mk _ (fun _ => g37 ..) ?_ | refine CallDS.mk _ (by simp [RV.data]) (fun _ => g37 ..) (by first | (intro h; cases h; done) | (intro _; repeat' (first | exact List.forall_mem_nil _ | trivial | refine List.forall_mem_cons.2 ⟨?_, ?_⟩)) | (intro _; simp [RV.flatP, CD.flatP, List.length_map, e1, e3]; done)) ?_ | refine CallAt.mk _ (g43 ..) (by first | (intro h; cases h; done) | (intro _; repeat' (first | exact List.forall_mem_nil _ | trivial | refine List.forall_mem_cons.2 ⟨?_, ?_⟩)) | (intro _; simp [RV.flatP, CD.flatP, List.length_map, e1, e3]; done)) ?_ | refine CallAtG.mk _ (fun _ => g43 ..) ?_ | refine CallDS.mk _ (by simp [RV.data]) (fun _ => g43 ..) (by first | (intro h; cases h; done) | (intro _; repeat' (first | exact List.forall_mem_nil _ | trivial | refine List.forall_mem_cons.2 ⟨?_, ?_⟩)) | (intro _; simp [RV.flatP, CD.flatP, List.length_map, e1, e3]; done)) ?_ | refine CallAt.mk _ (g22 ..) (by first | (intro h; cases h; done) | (intro _; repeat' (first | exact List.forall_mem_nil _ | trivial | refine List.forall_mem_cons.2 ⟨?_, ?_⟩)) | (intro _; simp [RV.flatP, CD.flatP, List.length_map, e1, e3]; done)) ?_ | refine CallAtG.mk _ (fun _ => g22 ..) ?_ | refine CallDS.mk _ (by simp [RV.data]) (fun _ => g22 ..) (by first | (intro h; cases h; done) | (intro _; repeat' (first | exact List.forall_mem_nil _ | trivial | refine List.forall_mem_cons.2 ⟨?_, ?_⟩)) | (intro _; simp [RV.flatP, CD.flatP, List.length_map, e1, e3]; done)) ?_); try simp (disch := omega) only [go_sem, seval, reduceCtorEq, ↓reduceIte, beq_dec, Int.toNat_natCast, IntKind.signed, IntKind.bits, List.length_map, e1, e3]) | refine And.intro (fun hc => (?_ : AW _ _ _ _)) (fun hc => (?_ : AW _ _ _ _)) | simp (disch := omega) only [go_sem, seval, reduceCtorEq, ↓reduceIte, beq_dec, Int.toNat_natCast, IntKind.signed, IntKind.bits, List.length_map, e1, e3] | (refine And.intro ?_ ?_; focus (first | (intros; omega) | (intros; simp_all; done))) | refine And.intro (?_ : CallAt _ _ _ _ _ _ _ _) ?_ | refine And.intro (?_ : CallAt _ _ _ _ _ _ _ _ ∧ _) ?_ | refine And.intro (?_ : AW _ _ _ _) ?_ | fail))
  refine AW_nil 10 902 47 3 (by rfl) ?_
  refine AW_loopK [1, 2, 4, 6, 8] [10, 11, 12, 13, 37, 38, 39, 40, 41, 42, 43, 44, 45, 46, 47, 48, 49, 50, 51, 52, 53, 54, 55, 56, 57, 58, 59, 60, 61, 62, 63, 64, 65, 66, 67, 68] (fun i : Nat => i ≤ g.links.length) (fun i => [(11, .I i), (10, .own 902)]) (fun i => [(902, .arr 47 3 ((nmL l ps k (g.links.take i)).map Lk.cd))]) (fun i => g.links.length - i) 0 (by omega) ?_ ?_
  · simp (disch := omega) only [go_sem, seval, reduceCtorEq, ↓reduceIte, beq_dec, Int.toNat_natCast, IntKind.signed, IntKind.bits, Int.natCast_zero, List.take_zero, nmL, List.filter_nil, List.map_nil]
  · intro j hj
    have hll := nmL_len l ps k g.links j hj
    rcases Nat.lt_or_ge j g.links.length with hjl | hjl
    · have s1 := nmL_take l ps k g.links j hjl
      have hno := hen _ (nth_mem' g.links j hjl)
      have c1 := f40 l (nth g.links j).o
      rw [plc_nat hno.1] at c1
      have p1 := (plN_mem hno.1).1
      have g39 := f39 (nth g.links j)
      (repeat' (first | refine NextAt.mk (fun hc => ?_) (fun pre n v post hc hkey => ?_) | refine Sni.mk (fun hc => ?_) ?_ | refine Both.mk ?_ ?_ | refine AW_seq ?_ | refine AW_block ?_ | ((first | refine AW_reg ?_ | refine AW_cond ?_ | refine AW_skip ?_ | refine AW_exit ?_ | refine AW_ret ?_ | refine AW_regD (by kernel_rfl) ?_ | refine AW_regX (by kernel_rfl) ?_ | refine CallAtG.t (Eq.refl true) ?_ | refine CallAtG.f (Eq.refl false) ?_ | refine CallAt.mk _ (g39 ..) (by first | (intro h; cases h; done) | (intro _; repeat' (first | exact List.forall_mem_nil _ | trivial | refine List.forall_mem_cons.2 ⟨?_, ?_⟩)) | (intro _; simp [RV.flatP, CD.flatP, List.length_map, getD_map Lk.cd, getD_map (fun x : Int => [CD.I x]), Lk.cd, Die.cd, List.map_cons, List.map_nil, maxLen, Int.toNat_natCast]; done)) ?_ | refine CallAtG.mk _ (fun _ => g39 ..) ?_ | refine CallDS.mk _ (by simp [RV.data]) (fun _ => g39 ..) (by first | (intro h; cases h; done) | (intro _; repeat' (first | exact List.forall_mem_nil _ | trivial | refine List.forall_mem_cons.2 ⟨?_, ?_⟩)) | (intro _; simp [RV.flatP, CD.flatP, List.length_map, getD_map Lk.cd, getD_map (fun x : Int => [CD.I x]), Lk.cd, Die.cd, List.map_cons, List.map_nil, maxLen, Int.toNat_natCast]; done)) ?_ | refine CallAt.mk _ (c1 ..) (by first | (intro h; cases h; done) | (intro _; repeat' (first | exact List.forall_mem_nil _ | trivial | refine List.forall_mem_cons.2 ⟨?_, ?_⟩)) | (intro _; simp [RV.flatP, CD.flatP, List.length_map, getD_map Lk.cd, getD_map (fun x : Int => [CD.I x]), Lk.cd, Die.cd, List.map_cons, List.map_nil, maxLen, Int.toNat_natCast]; done)) ?_ | refine CallAtG.mk _ (fun _ => c1 ..) ?_ | refine CallDS.mk _ (by simp [RV.data]) (fun _ => c1 ..) (by first | (intro h; cases h; done) | (intro _; repeat' (first | exact List.forall_mem_nil _ | trivial | refine List.forall_mem_cons.2 ⟨?_, ?_⟩)) | (intro _; simp [RV.flatP, CD.flatP, List.length_map, getD_map Lk.cd, getD_map (fun x : Int => [CD.I x]), Lk.cd, Die.cd, List.map_cons, List.map_nil, maxLen, Int.toNat_natCast]; done)) ?_); try simp (disch := omega) only [go_sem, seval, reduceCtorEq, ↓reduceIte, beq_dec, Int.toNat_natCast, IntKind.signed, IntKind.bits, List.length_map, getD_map Lk.cd, getD_map (fun x : Int => [CD.I x]), Lk.cd, Die.cd, List.map_cons, List.map_nil, maxLen, Int.toNat_natCast]) | refine And.intro (fun hc => (?_ : AW _ _ _ _)) (fun hc => (?_ : AW _ _ _ _)) | simp (disch := omega) only [go_sem, seval, reduceCtorEq, ↓reduceIte, beq_dec, Int.toNat_natCast, IntKind.signed, IntKind.bits, List.length_map, getD_map Lk.cd, getD_map (fun x : Int => [CD.I x]), Lk.cd, Die.cd, List.map_cons, List.map_nil, maxLen, Int.toNat_natCast] | (refine And.intro ?_ ?_; focus (first | (intros; omega) | (intros; simp_all; done))) | refine And.intro (?_ : CallAt _ _ _ _ _ _ _ _) ?_ | refine And.intro (?_ : CallAt _ _ _ _ _ _ _ _ ∧ _) ?_ | refine And.intro (?_ : AW _ _ _ _) ?_ | fail))
      · rw [if_pos (by assumption)] at s1
        refine .mk (j + 1) (by omega) (by omega) ?_
        rw [s1, List.map_append, List.map_cons, List.map_nil]
        simp (disch := omega) only [go_sem, seval, reduceCtorEq, ↓reduceIte, beq_dec, Int.toNat_natCast, IntKind.signed, IntKind.bits, Int.natCast_add, Int.natCast_one, Lk.cd]
      · rw [if_neg (by assumption)] at s1
        refine .mk (j + 1) (by omega) (by omega) ?_
        rw [s1, List.append_nil]
        simp (disch := omega) only [go_sem, seval, reduceCtorEq, ↓reduceIte, beq_dec, Int.toNat_natCast, IntKind.signed, IntKind.bits, Int.natCast_add, Int.natCast_one]
      · exfalso; omega
    · have hje : j = g.links.length := by omega
      subst hje
      rw [List.take_length]
      (repeat' (first | (with_reducible refine hold30 ?_; try simp (disch := omega) only [go_sem, seval, reduceCtorEq, ↓reduceIte, beq_dec, Int.toNat_natCast, IntKind.signed, IntKind.bits, List.length_map]) | refine NextAt.mk (fun hc => ?_) (fun pre n v post hc hkey => ?_) | refine Sni.mk (fun hc => ?_) ?_ | refine Both.mk ?_ ?_ | refine AW_seq ?_ | refine AW_block ?_ | ((first | refine AW_reg ?_ | refine AW_cond ?_ | refine AW_skip ?_ | refine AW_exit ?_ | refine AW_ret ?_ | refine AW_regD (by kernel_rfl) ?_ | refine AW_regX (by kernel_rfl) ?_ | refine CallAtG.t (Eq.refl true) ?_ | refine CallAtG.f (Eq.refl false) ?_); try simp (disch := omega) only [go_sem, seval, reduceCtorEq, ↓reduceIte, beq_dec, Int.toNat_natCast, IntKind.signed, IntKind.bits, List.length_map]) | refine And.intro (fun hc => (?_ : AW _ _ _ _)) (fun hc => (?_ : AW _ _ _ _)) | simp (disch := omega) only [go_sem, seval, reduceCtorEq, ↓reduceIte, beq_dec, Int.toNat_natCast, IntKind.signed, IntKind.bits, List.length_map] | (refine And.intro ?_ ?_; focus (first | (intros; omega) | (intros; simp_all; done))) | refine And.intro (?_ : CallAt _ _ _ _ _ _ _ _) ?_ | refine And.intro (?_ : CallAt _ _ _ _ _ _ _ _ ∧ _) ?_ | refine And.intro (?_ : AW _ _ _ _) ?_ | fail))
      · exfalso; omega
      refine ⟨AW_frz [902] ?_⟩
      (repeat' (first | refine NextAt.mk (fun hc => ?_) (fun pre n v post hc hkey => ?_) | refine Sni.mk (fun hc => ?_) ?_ | refine Both.mk ?_ ?_ | refine AW_seq ?_ | refine AW_block ?_ | ((first | refine AW_reg ?_ | refine AW_cond ?_ | refine AW_skip ?_ | refine AW_exit ?_ | refine AW_ret ?_ | refine AW_regD (by kernel_rfl) ?_ | refine AW_regX (by kernel_rfl) ?_ | refine CallAtG.t (Eq.refl true) ?_ | refine CallAtG.f (Eq.refl false) ?_ | refine CallAt.mk _ (g28 ..) (by first | (intro h; cases h; done) | (intro _; repeat' (first | exact List.forall_mem_nil _ | trivial | refine List.forall_mem_cons.2 ⟨?_, ?_⟩)) | (intro _; simp [RV.flatP, CD.flatP]; done)) ?_ | refine CallAtG.mk _ (fun _ => g28 ..) ?_ | refine CallDS.mk _ (by simp [RV.data]) (fun _ => g28 ..) (by first | (intro h; cases h; done) | (intro _; repeat' (first | exact List.forall_mem_nil _ | trivial | refine List.forall_mem_cons.2 ⟨?_, ?_⟩)) | (intro _; simp [RV.flatP, CD.flatP]; done)) ?_); try simp (disch := omega) only [go_sem, seval, reduceCtorEq, ↓reduceIte, beq_dec, Int.toNat_natCast, IntKind.signed, IntKind.bits]) | refine And.intro (fun hc => (?_ : AW _ _ _ _)) (fun hc => (?_ : AW _ _ _ _)) | simp (disch := omega) only [go_sem, seval, reduceCtorEq, ↓reduceIte, beq_dec, Int.toNat_natCast, IntKind.signed, IntKind.bits] | (refine And.intro ?_ ?_; focus (first | (intros; omega) | (intros; simp_all; done))) | refine And.intro (?_ : CallAt _ _ _ _ _ _ _ _) ?_ | refine And.intro (?_ : CallAt _ _ _ _ _ _ _ _ ∧ _) ?_ | refine And.intro (?_ : AW _ _ _ _) ?_ | fail))
end Go.Proofs.Ytlomngideedobaa

-- P p_14.txt
open Go Go.AL Go.RowKit
namespace Go.Proofs.Ytlomngideedobaa
set_option maxRecDepth 20000
/-! ### the graph of links by Id; the graph of a component -/
theorem pwI_ext {a b : List Int} (ha : a.Pairwise (· < ·)) (hb : b.Pairwise (· < ·)) (h : ∀ x, x ∈ a ↔ x ∈ b) : a = b :=
  List.Perm.eq_of_pairwise (fun x y _ _ h1 h2 => by omega) ha hb ((List.perm_ext_iff_of_nodup (ha.imp fun h => by omega) (hb.imp fun h => by omega)).2 h)
theorem insA_mem {l : List Int} {x y : Int} : y ∈ insA l x ↔ y ∈ l ∨ y = x := by
  unfold insA
  split
  · rename_i h
    refine ⟨.inl, fun h' => ?_⟩
    rcases h' with h' | h'
    · exact h'
    · rw [h', ← h.1]; exact nth_mem' l _ h.2
  · have h2 := List.take_append_drop (bfr l x) l
    rw [List.mem_append, List.mem_cons]
    conv => rhs; rw [← h2, List.mem_append]
    constructor
    · rintro (h | h | h)
      · exact .inl (.inl h)
      · exact .inr h
      · exact .inl (.inr h)
    · rintro ((h | h) | h)
      · exact .inl h
      · exact .inr (.inr h)
      · exact .inr (.inl h)
theorem insA_pw {l : List Int} (h : l.Pairwise (· < ·)) (x : Int) : (insA l x).Pairwise (· < ·) := by
  unfold insA
  split
  · exact h
  · rename_i hn
    have hl := bfr_le l x
    rw [List.pairwise_append]
    refine ⟨h.sublist (List.take_sublist _ _), ?_, fun a ha b hb => ?_⟩
    · rw [List.pairwise_cons]
      refine ⟨fun b hb => ?_, h.sublist (List.drop_sublist _ _)⟩
      obtain ⟨j, hj, rfl⟩ := List.getElem_of_mem hb
      rw [List.getElem_drop]
      simp at hj
      have h1 := bfr_at (l := l) (x := x) (by omega)
      have h3 : nth l (bfr l x) ≠ x := fun e => hn ⟨e, by omega⟩
      rw [nth_eq l _ (by omega)] at h1 h3
      rcases Nat.eq_zero_or_pos j with rfl | hj0
      · simp only [Nat.add_zero]; omega
      · have := List.pairwise_iff_getElem.1 h (bfr l x) (bfr l x + j) (by omega) (by omega) (by omega)
        omega
    · obtain ⟨i, hi, rfl⟩ := List.getElem_of_mem ha
      rw [List.getElem_take]
      simp at hi
      have h1 := bfr_lt (l := l) (x := x) (i := i) (by omega)
      rw [nth_eq l i (by omega)] at h1
      rcases List.mem_cons.1 hb with rfl | hb
      · exact h1
      · obtain ⟨j, hj, rfl⟩ := List.getElem_of_mem hb
        rw [List.getElem_drop]
        simp at hj
        exact List.pairwise_iff_getElem.1 h i (bfr l x + j) (by omega) (by omega) (by omega)
theorem insL_end {l : List Lk} {x : Lk} (h : ∀ y ∈ l, y.id < x.id) : insL l x = l ++ [x] := by
  unfold insL bfrL
  have : (l.takeWhile fun y => decide (y.id < x.id)) = l := by
    induction l with
    | nil => rfl
    | cons a l ih =>
      rw [List.takeWhile_cons, if_pos (by simpa using h a (by simp)), ih fun y hy => h y (List.mem_cons_of_mem _ hy)]
  rw [this, List.take_length, List.drop_length]
theorem mdI_props (ls : List Lk) : ∀ i, i ≤ ls.length → (mdI (ls.take i)).obv.Pairwise (· < ·) ∧ (mdI (ls.take i)).rev.Pairwise (· < ·) ∧ (∀ n, n ∈ (mdI (ls.take i)).obv ↔ ∃ x ∈ ls.take i, x.obv = n) ∧ (∀ n, n ∈ (mdI (ls.take i)).rev ↔ ∃ x ∈ ls.take i, x.rev = n)
  | 0, _ => by simp [mdI]
  | i + 1, h => by
    obtain ⟨a, b, c, d⟩ := mdI_props ls i (by omega)
    rw [mdI_succ ls i (by omega), List.take_succ_eq_append_getElem (by omega : i < ls.length), nth_eq ls i (by omega)]
    refine ⟨insA_pw a _, insA_pw b _, fun n => ?_, fun n => ?_⟩
    · rw [insA_mem, c]
      simp only [List.mem_append, List.mem_singleton]
      constructor
      · rintro (⟨x, h1, h2⟩ | h1)
        · exact ⟨x, .inl h1, h2⟩
        · exact ⟨_, .inr rfl, h1.symm⟩
      · rintro ⟨x, h1 | h1, h2⟩
        · exact .inl ⟨x, h1, h2⟩
        · exact .inr (by rw [← h2, h1])
    · rw [insA_mem, d]
      simp only [List.mem_append, List.mem_singleton]
      constructor
      · rintro (⟨x, h1, h2⟩ | h1)
        · exact ⟨x, .inl h1, h2⟩
        · exact ⟨_, .inr rfl, h1.symm⟩
      · rintro ⟨x, h1 | h1, h2⟩
        · exact .inl ⟨x, h1, h2⟩
        · exact .inr (by rw [← h2, h1])
theorem mdI_links (ls : List Lk) (hp : ls.Pairwise fun x y => x.id < y.id) : ∀ i, i ≤ ls.length → (mdI (ls.take i)).links = ls.take i
  | 0, _ => by simp [mdI]
  | i + 1, h => by
    have ih := mdI_links ls hp i (by omega)
    rw [mdI_succ ls i (by omega)]
    simp only [ih]
    rw [insL_end, List.take_succ_eq_append_getElem (by omega : i < ls.length), nth_eq ls i (by omega)]
    intro y hy
    obtain ⟨j, hj, rfl⟩ := List.getElem_of_mem hy
    rw [List.getElem_take, nth_eq ls i (by omega)]
    simp at hj
    exact List.pairwise_iff_getElem.1 hp j i (by omega) (by omega) (by omega)
theorem mdI_eq {ls : List Lk} (hp : ls.Pairwise fun x y => x.id < y.id) {o r : List Int} (ho : o.Pairwise (· < ·)) (hr : r.Pairwise (· < ·)) (h1 : ∀ n, n ∈ o ↔ ∃ x ∈ ls, x.obv = n) (h2 : ∀ n, n ∈ r ↔ ∃ x ∈ ls, x.rev = n) : mdI ls = ⟨o, r, ls⟩ := by
  have h := mdI_props ls ls.length (Nat.le_refl _)
  have h' := mdI_links ls hp ls.length (Nat.le_refl _)
  rw [List.take_length] at h h'
  obtain ⟨a, b, c, d⟩ := h
  refine gr_ext.2 ⟨pwI_ext a ho fun n => ?_, pwI_ext b hr fun n => ?_, h'⟩
  · rw [c, h1]
  · rw [d, h2]
/-- the number of a die's component -/
def nmF (g : Gr) : NF := (pI g.links (diesG g) (diesG g).length).f
theorem nmF_nth (g : Gr) (i : Nat) (h : i < (diesG g).length) : nmF g (nth (diesG g) i) = some (nth (partsG g) i) := by
  rw [partsG_pI]; exact (pI_far g.links (diesG g) _ (Nat.le_refl _)).2.2 i h
theorem nmF_closed (g : Gr) : Closed g.links (nmF g) := (pI_far g.links (diesG g) _ (Nat.le_refl _)).1
theorem rowI_filter (g : Gr) (k : Int) : ∀ i, i ≤ (diesG g).length → rowI (partsG g) (diesG g) k i = ((diesG g).take i).filter fun d => decide (nmF g d = some k)
  | 0, _ => by simp [rowI]
  | i + 1, h => by
    have ih := rowI_filter g k i (by omega)
    have h1 := nmF_nth g i (by omega)
    rw [List.take_succ_eq_append_getElem (by omega : i < (diesG g).length), List.filter_append, ← ih]
    simp only [rowI]
    rw [nth_eq (diesG g) i (by omega)] at h1 ⊢
    simp only [List.filter_cons, List.filter_nil, h1, Option.some.injEq, decide_eq_true_eq]
    split
    · rfl
    · simp
theorem chG_filter {g : Gr} (hv : validG g = true) (k : Nat) : nth (chG g) k = (diesG g).filter fun d => decide (nmF g d = some (k : Int)) := by
  have h1 := chG_row hv k
  have h3 : nth (chG g) k = (chG g).getD k [] := rfl
  rw [h3, h1, rowI_filter g k _ (Nat.le_refl _), List.take_length]
theorem obvs_dies (g : Gr) (p : Die → Bool) : obvs ((diesG g).filter p) = g.obv.filter fun n => p (oD n) := by
  unfold obvs diesG
  rw [List.filter_filter, List.filter_append, List.map_append]
  have e1 : (g.rev.map fun n => (⟨1, n⟩ : Die)).filter (fun d => (decide (d.side = 0)) && p d) = [] := by
    rw [List.filter_eq_nil_iff]
    intro d hd
    obtain ⟨n, _, rfl⟩ := List.mem_map.1 hd
    simp
  rw [e1, List.filter_map, List.map_map, List.map_nil, List.append_nil]
  have e2 : ((fun d : Die => decide (d.side = 0) && p d) ∘ fun n => (⟨0, n⟩ : Die)) = fun n => p (oD n) := by funext n; simp
  rw [e2]
  have e3 : (Die.num ∘ fun n => (⟨0, n⟩ : Die)) = id := rfl
  rw [e3, List.map_id]
theorem revs_dies (g : Gr) (p : Die → Bool) : revs ((diesG g).filter p) = g.rev.filter fun n => p (rD n) := by
  unfold revs diesG
  rw [List.filter_filter, List.filter_append, List.map_append]
  have e1 : (g.obv.map fun n => (⟨0, n⟩ : Die)).filter (fun d => (decide (¬ d.side = 0)) && p d) = [] := by
    rw [List.filter_eq_nil_iff]
    intro d hd
    obtain ⟨n, _, rfl⟩ := List.mem_map.1 hd
    simp
  rw [e1, List.filter_map, List.map_map, List.map_nil, List.nil_append]
  have e2 : ((fun d : Die => decide (¬ d.side = 0) && p d) ∘ fun n => (⟨1, n⟩ : Die)) = fun n => p (rD n) := by funext n; simp
  rw [e2]
  have e3 : (Die.num ∘ fun n => (⟨1, n⟩ : Die)) = id := rfl
  rw [e3, List.map_id]
theorem valid_asc {g : Gr} (hv : validG g = true) : g.obv.Pairwise (· < ·) ∧ g.rev.Pairwise (· < ·) := by
  obtain ⟨a, b, _⟩ := (validG_iff g).1 hv
  unfold numV at a b
  simp only [Bool.and_eq_true] at a b
  exact ⟨ascV_asc a.1, ascV_asc b.1⟩
theorem valid_ids {g : Gr} (hv : validG g = true) : g.links.Pairwise fun x y => x.id < y.id := by
  obtain ⟨_, _, _, hl, _⟩ := (validG_iff g).1 hv
  have key : ∀ j, j < g.links.length → ∀ i, i < j → (nth g.links i).id < (nth g.links j).id := by
    intro j
    induction j with
    | zero => intro _ i hi; omega
    | succ j ih =>
      intro hj i hi
      have h1 := (hl (j + 1) hj).2.2.1 (by omega)
      simp only [Nat.add_sub_cancel] at h1
      rcases Nat.lt_succ_iff_lt_or_eq.1 hi with h2 | rfl
      · have := ih (by omega) i h2; omega
      · exact h1
  rw [List.pairwise_iff_getElem]
  intro i j hi hj hij
  have := key j hj i hij
  rwa [nth_eq _ i hi, nth_eq _ j hj] at this
theorem or_join {g : List Lk} {x : Lk} (h : x ∈ g) : (dst g x.o x.r).isSome = true := by
  have : Wk g x.o 1 x.r := .cons .nil ⟨x, h, across_iff.2 (.inl ⟨rfl, rfl⟩)⟩
  obtain ⟨m, _, hd⟩ := this.dist
  rw [Option.isSome_iff_exists]
  exact ⟨m, dst_some.2 ⟨by omega, by simpa using hd⟩⟩
theorem nm_or {g : Gr} {x : Lk} (h : x ∈ g.links) (v : Int) : nmF g x.o = some v ↔ nmF g x.r = some v :=
  ⟨fun h1 => nmF_closed g _ _ _ h1 (or_join h), fun h1 => nmF_closed g _ _ _ h1 (by rw [dst_symm]; exact or_join h)⟩
theorem valid_obv {g : Gr} (hv : validG g = true) : (∀ x ∈ g.obv, ∃ l ∈ g.links, l.obv = x) ∧ (∀ x ∈ g.rev, ∃ l ∈ g.links, l.rev = x) := by
  obtain ⟨_, _, _, _, a, b⟩ := (validG_iff g).1 hv
  exact ⟨fun x hx => by simpa using a x hx, fun x hx => by simpa using b x hx⟩
theorem part_eq {g : Gr} (hv : validG g = true) (k : Nat) : mdI (nmL (diesG g) (partsG g) k g.links) = partR g (nth (chG g) k) := by
  have hasc := valid_asc hv
  have hen := valid_ends hv
  have hob := valid_obv hv
  have hpw := valid_ids hv
  have hnm : ∀ x ∈ g.links, nth (partsG g) (plN (diesG g) x.o) = (k : Int) ↔ nmF g x.o = some (k : Int) := fun x hx => by
    obtain ⟨h1, h2⟩ := plN_mem (hen x hx).1
    have := nmF_nth g _ h1
    rw [h2] at this
    rw [this]; simp
  have hO : obvs (nth (chG g) k) = g.obv.filter fun n => decide (nmF g (oD n) = some (k : Int)) := by rw [chG_filter hv, obvs_dies]
  have hR : revs (nth (chG g) k) = g.rev.filter fun n => decide (nmF g (rD n) = some (k : Int)) := by rw [chG_filter hv, revs_dies]
  have hmo : ∀ x ∈ g.links, x.obv ∈ g.obv := fun x hx => by
    have := (hen x hx).1
    unfold diesG at this
    simpa [Lk.o] using this
  have hmr : ∀ x ∈ g.links, x.rev ∈ g.rev := fun x hx => by
    have := (hen x hx).2
    unfold diesG at this
    simpa [Lk.r] using this
  have hL : lkIn (obvs (nth (chG g) k)) g.links = nmL (diesG g) (partsG g) k g.links := by
    unfold lkIn nmL
    refine List.filter_congr fun x hx => ?_
    rw [hO, decide_eq_decide, hnm x hx, List.mem_filter]
    simp only [decide_eq_true_eq]
    exact ⟨fun h => h.2, fun h => ⟨hmo x hx, h⟩⟩
  unfold partR
  rw [hL, hO, hR]
  refine mdI_eq (hpw.sublist List.filter_sublist) (hasc.1.sublist List.filter_sublist) (hasc.2.sublist List.filter_sublist) (fun n => ?_) (fun n => ?_)
  · rw [List.mem_filter]
    simp only [decide_eq_true_eq, nmL, List.mem_filter]
    constructor
    · rintro ⟨h1, h2⟩
      obtain ⟨x, hx, rfl⟩ := hob.1 n h1
      exact ⟨x, ⟨hx, (hnm x hx).2 h2⟩, rfl⟩
    · rintro ⟨x, ⟨hx, h2⟩, rfl⟩
      exact ⟨hmo x hx, (hnm x hx).1 h2⟩
  · rw [List.mem_filter]
    simp only [decide_eq_true_eq, nmL, List.mem_filter]
    constructor
    · rintro ⟨h1, h2⟩
      obtain ⟨x, hx, rfl⟩ := hob.2 n h1
      exact ⟨x, ⟨hx, (hnm x hx).2 ((nm_or hx _).2 h2)⟩, rfl⟩
    · rintro ⟨x, ⟨hx, h2⟩, rfl⟩
      exact ⟨hmr x hx, (nm_or hx _).1 ((hnm x hx).1 h2)⟩
end Go.Proofs.Ytlomngideedobaa

-- P p_14.txt
open Go Go.AL Go.RowKit
namespace Go.Proofs.Ytlomngideedobaa
set_option maxRecDepth 20000
/- coinage/coinagelaw14.ComponentPart -/
abbrev c7_1 : AC := .reg [⟨(some 2), .box 25 (some 3) (.t 0), none⟩,
  ⟨(some 4), .mv (.k (.B false)), none⟩] false
abbrev c7_2 : AC := .reg [⟨(some 9), .call 10 [], none⟩,
  ⟨(some 10), .not (.t 9), none⟩,
  ⟨(some 11), .mv (.t 10), none⟩,
  ⟨(some 12), .ld (some 3) (.t 2), (some (11, false))⟩,
  ⟨(some 13), .call 11 [(.t 12)], (some (11, false))⟩,
  ⟨(some 14), .not (.t 13), (some (11, false))⟩,
  ⟨(some 15), .pick (.t 11) (.k (.B true)) (.t 14), none⟩] false
abbrev c7_3 : AC := .reg [⟨(some 16), .call 10 [], none⟩,
  ⟨(some 4), .mv (.t 16), none⟩] false
abbrev c7_4 : AC := .seq c7_3 .ret
abbrev c7_5 : AC := .cond (.t 15) c7_4 .skip
abbrev c7_6 : AC := .seq c7_2 c7_5
abbrev c7_7 : AC := .reg [⟨(some 18), .ld (some 3) (.t 2), none⟩,
  ⟨(some 19), .mv (.t 1), none⟩,
  ⟨(some 20), .call 29 [(.t 18), (.t 19)], none⟩,
  ⟨(some 17), .mv (.t 20), none⟩,
  ⟨(some 21), .ext (.t 17) 0, none⟩,
  ⟨(some 22), .ext (.t 17) 1, none⟩,
  ⟨(some 5), .alloc 25 [(.c .nil), (.c .nil), (.c .nil)], none⟩,
  ⟨none, .st (some 3) (.t 5) (.t 21), none⟩,
  ⟨(some 6), .mv (.t 22), none⟩] false
abbrev c7_8 : AC := .reg [⟨(some 24), .ld (some 3) (.t 2), none⟩,
  ⟨(some 25), .mv (.t 1), none⟩,
  ⟨(some 26), .call 30 [(.t 24), (.t 25)], none⟩,
  ⟨(some 23), .mv (.t 26), none⟩,
  ⟨(some 27), .ext (.t 23) 0, none⟩,
  ⟨(some 28), .ext (.t 23) 1, none⟩,
  ⟨(some 7), .alloc 25 [(.c .nil), (.c .nil), (.c .nil)], none⟩,
  ⟨none, .st (some 3) (.t 7) (.t 27), none⟩,
  ⟨(some 8), .mv (.t 28), none⟩] false
abbrev c7_9 : AC := .reg [⟨(some 29), .mv (.t 6), none⟩,
  ⟨(some 30), .mv (.t 8), none⟩,
  ⟨(some 31), .bin .eql (.t 29) (.t 30), none⟩,
  ⟨(some 32), .mv (.t 31), none⟩,
  ⟨(some 33), .ld (some 3) (.t 5), (some (32, true))⟩,
  ⟨(some 34), .ld (some 3) (.t 7), (some (32, true))⟩,
  ⟨(some 35), .call 31 [(.t 33), (.t 34)], (some (32, true))⟩,
  ⟨(some 36), .pick (.t 32) (.t 35) (.k (.B false)), none⟩,
  ⟨(some 4), .mv (.t 36), none⟩] false
abbrev c7_10 : AC := .seq c7_9 .ret
abbrev c7_11 : AC := .seq c7_8 c7_10
abbrev c7_12 : AC := .seq c7_7 c7_11
abbrev c7_13 : AC := .seq c7_6 c7_12
abbrev c7_14 : AC := .seq c7_1 c7_13
abbrev c7 : AC := c7_14
theorem code7 : fnCode Try.prog 7 = some (c7, [4], 37) := by kernel_rfl

theorem f16n : FnR Try.prog 16 [.c .nil, .c .nil] [.c (.B true)] := by
  have h := f16s []
  have h1 : FnR Try.prog 16 [.c (.sl 1 []), .c .nil] [.c (.B true)] := FnR.nil (pre := [.c (.sl 1 [])]) (post := []) (k := 1) h
  exact FnR.nil (pre := []) (post := [.c .nil]) (k := 1) h1
theorem f49n : FnR Try.prog 49 [.c .nil, .c .nil] [.c (.B true)] := by
  have h := f49 [] []
  rw [show decide (([] : List Lk) = []) = true by simp] at h
  have h1 : FnR Try.prog 49 [.c (.sl 3 []), .c .nil] [.c (.B true)] := FnR.nil (pre := [.c (.sl 3 [])]) (post := []) (k := 3) h
  exact FnR.nil (pre := []) (post := [.c .nil]) (k := 3) h1
theorem f31n : FnR Try.prog 31 [.agg [.c .nil, .c .nil, .c .nil], .agg [.c .nil, .c .nil, .c .nil]] [.c (.B true)] := by
  have g16 := f16n
  have g49 := f49n
  refine fn_walk code31 (by simp) ?_
  (repeat' (first | refine NextAt.mk (fun hc => ?_) (fun pre n v post hc hkey => ?_) | refine Sni.mk (fun hc => ?_) ?_ | refine Both.mk ?_ ?_ | refine AW_seq ?_ | refine AW_block ?_ | ((first | refine AW_reg ?_ | refine AW_cond ?_ | refine AW_skip ?_ | refine AW_exit ?_ | refine AW_ret ?_ | refine AW_regD (by kernel_rfl) ?_ | refine AW_regX (by kernel_rfl) ?_ | refine CallAtG.t (Eq.refl true) ?_ | refine CallAtG.f (Eq.refl false) ?_ | refine CallAt.mk _ (g16 ..) (by first | (intro h; cases h; done) | (intro _; repeat' (first | exact List.forall_mem_nil _ | trivial | refine List.forall_mem_cons.2 ⟨?_, ?_⟩)) | (intro _; simp [RV.flatP, CD.flatP]; done)) ?_ | refine CallAtG.mk _ (fun _ => g16 ..) ?_ | refine CallDS.mk _ (by simp [RV.data]) (fun _ => g16 ..) (by first | (intro h; cases h; done) | (intro _; repeat' (first | exact List.forall_mem_nil _ | trivial | refine List.forall_mem_cons.2 ⟨?_, ?_⟩)) | (intro _; simp [RV.flatP, CD.flatP]; done)) ?_ | refine CallAt.mk _ (g49 ..) (by first | (intro h; cases h; done) | (intro _; repeat' (first | exact List.forall_mem_nil _ | trivial | refine List.forall_mem_cons.2 ⟨?_, ?_⟩)) | (intro _; simp [RV.flatP, CD.flatP]; done)) ?_ | refine CallAtG.mk _ (fun _ => g49 ..) ?_ | refine CallDS.mk _ (by simp [RV.data]) (fun _ => g49 ..) (by first | (intro h; cases h; done) | (intro _; repeat' (first | exact List.forall_mem_nil _ | trivial | refine List.forall_mem_cons.2 ⟨?_, ?_⟩)) | (intro _; simp [RV.flatP, CD.flatP]; done)) ?_); try simp (disch := omega) only [go_sem, seval, reduceCtorEq, ↓reduceIte, beq_dec, Int.toNat_natCast, IntKind.signed, IntKind.bits]) | refine And.intro (fun hc => (?_ : AW _ _ _ _)) (fun hc => (?_ : AW _ _ _ _)) | simp (disch := omega) only [go_sem, seval, reduceCtorEq, ↓reduceIte, beq_dec, Int.toNat_natCast, IntKind.signed, IntKind.bits] | (refine And.intro ?_ ?_; focus (first | (intros; omega) | (intros; simp_all; done))) | refine And.intro (?_ : CallAt _ _ _ _ _ _ _ _) ?_ | refine And.intro (?_ : CallAt _ _ _ _ _ _ _ _ ∧ _) ?_ | refine And.intro (?_ : AW _ _ _ _) ?_ | fail))
theorem f31s (a : Gr) : FnR Try.prog 31 [a.av, a.av] [.c (.B true)] := by
  have := f31 a a
  rwa [show decide (a = a) = true by simp] at this
theorem f30p (g : Gr) (k : Nat) (hv : validG g = true) (hk : k < (chG g).length) : FnR Try.prog 30 [g.av, .I k] [.agg [Row (partR g (nth (chG g) k)).obv, Row (partR g (nth (chG g) k)).rev, LL (partR g (nth (chG g) k)).links], .c (.I 0)] := by
  have := f30v g k hv hk
  rwa [part_eq hv k] at this
set_option maxHeartbeats 4000000 in
theorem f7 (g : Gr) (k : Int) : FnR Try.prog 7 [g.av, .I k] [.c (.B true)] := by
  have g31 := f31n
  cases hv : validG g with
  | false =>
    have g29 := f29e g k hv
    have g30 := f30e g k hv
    refine fn_walk code7 (by simp) ?_
    (repeat' (first | refine NextAt.mk (fun hc => ?_) (fun pre n v post hc hkey => ?_) | refine Sni.mk (fun hc => ?_) ?_ | refine Both.mk ?_ ?_ | refine AW_seq ?_ | refine AW_block ?_ | ((first | refine AW_reg ?_ | refine AW_cond ?_ | refine AW_skip ?_ | refine AW_exit ?_ | refine AW_ret ?_ | refine AW_regD (by kernel_rfl) ?_ | refine AW_regX (by kernel_rfl) ?_ | refine CallAtG.t (Eq.refl true) ?_ | refine CallAtG.f (Eq.refl false) ?_ | refine CallAt.mk _ (f10 ..) (by first | (intro h; cases h; done) | (intro _; repeat' (first | exact List.forall_mem_nil _ | trivial | refine List.forall_mem_cons.2 ⟨?_, ?_⟩)) | (intro _; simp [RV.flatP, CD.flatP]; done)) ?_ | refine CallAtG.mk _ (fun _ => f10 ..) ?_ | refine CallDS.mk _ (by simp [RV.data]) (fun _ => f10 ..) (by first | (intro h; cases h; done) | (intro _; repeat' (first | exact List.forall_mem_nil _ | trivial | refine List.forall_mem_cons.2 ⟨?_, ?_⟩)) | (intro _; simp [RV.flatP, CD.flatP]; done)) ?_ | refine CallAt.mk _ (f11 ..) (by first | (intro h; cases h; done) | (intro _; repeat' (first | exact List.forall_mem_nil _ | trivial | refine List.forall_mem_cons.2 ⟨?_, ?_⟩)) | (intro _; simp [RV.flatP, CD.flatP]; done)) ?_ | refine CallAtG.mk _ (fun _ => f11 ..) ?_ | refine CallDS.mk _ (by simp [RV.data]) (fun _ => f11 ..) (by first | (intro h; cases h; done) | (intro _; repeat' (first | exact List.forall_mem_nil _ | trivial | refine List.forall_mem_cons.2 ⟨?_, ?_⟩)) | (intro _; simp [RV.flatP, CD.flatP]; done)) ?_ | refine CallAt.mk _ (g29 ..) (by first | (intro h; cases h; done) | (intro _; repeat' (first | exact List.forall_mem_nil _ | trivial | refine List.forall_mem_cons.2 ⟨?_, ?_⟩)) | (intro _; simp [RV.flatP, CD.flatP]; done)) ?_ | refine CallAtG.mk _ (fun _ => g29 ..) ?_ | refine CallDS.mk _ (by simp [RV.data]) (fun _ => g29 ..) (by first | (intro h; cases h; done) | (intro _; repeat' (first | exact List.forall_mem_nil _ | trivial | refine List.forall_mem_cons.2 ⟨?_, ?_⟩)) | (intro _; simp [RV.flatP, CD.flatP]; done)) ?_ | refine CallAt.mk _ (g30 ..) (by first | (intro h; cases h; done) | (intro _; repeat' (first | exact List.forall_mem_nil _ | trivial | refine List.forall_mem_cons.2 ⟨?_, ?_⟩)) | (intro _; simp [RV.flatP, CD.flatP]; done)) ?_ | refine CallAtG.mk _ (fun _ => g30 ..) ?_ | refine CallDS.mk _ (by simp [RV.data]) (fun _ => g30 ..) (by first | (intro h; cases h; done) | (intro _; repeat' (first | exact List.forall_mem_nil _ | trivial | refine List.forall_mem_cons.2 ⟨?_, ?_⟩)) | (intro _; simp [RV.flatP, CD.flatP]; done)) ?_ | refine CallAt.mk _ (g31 ..) (by first | (intro h; cases h; done) | (intro _; repeat' (first | exact List.forall_mem_nil _ | trivial | refine List.forall_mem_cons.2 ⟨?_, ?_⟩)) | (intro _; simp [RV.flatP, CD.flatP]; done)) ?_ | refine CallAtG.mk _ (fun _ => g31 ..) ?_ | refine CallDS.mk _ (by simp [RV.data]) (fun _ => g31 ..) (by first | (intro h; cases h; done) | (intro _; repeat' (first | exact List.forall_mem_nil _ | trivial | refine List.forall_mem_cons.2 ⟨?_, ?_⟩)) | (intro _; simp [RV.flatP, CD.flatP]; done)) ?_); try simp (disch := omega) only [go_sem, seval, reduceCtorEq, ↓reduceIte, beq_dec, Int.toNat_natCast, IntKind.signed, IntKind.bits]) | refine And.intro (fun hc => (?_ : AW _ _ _ _)) (fun hc => (?_ : AW _ _ _ _)) | simp (disch := omega) only [go_sem, seval, reduceCtorEq, ↓reduceIte, beq_dec, Int.toNat_natCast, IntKind.signed, IntKind.bits] | (refine And.intro ?_ ?_; focus (first | (intros; omega) | (intros; simp_all; done))) | refine And.intro (?_ : CallAt _ _ _ _ _ _ _ _) ?_ | refine And.intro (?_ : CallAt _ _ _ _ _ _ _ _ ∧ _) ?_ | refine And.intro (?_ : AW _ _ _ _) ?_ | fail))
  | true =>
    by_cases hk : k < 0 ∨ ((chG g).length : Int) ≤ k
    · have g29 := f29n g k hv hk
      have g30 := f30n g k hv hk
      refine fn_walk code7 (by simp) ?_
      (repeat' (first | refine NextAt.mk (fun hc => ?_) (fun pre n v post hc hkey => ?_) | refine Sni.mk (fun hc => ?_) ?_ | refine Both.mk ?_ ?_ | refine AW_seq ?_ | refine AW_block ?_ | ((first | refine AW_reg ?_ | refine AW_cond ?_ | refine AW_skip ?_ | refine AW_exit ?_ | refine AW_ret ?_ | refine AW_regD (by kernel_rfl) ?_ | refine AW_regX (by kernel_rfl) ?_ | refine CallAtG.t (Eq.refl true) ?_ | refine CallAtG.f (Eq.refl false) ?_ | refine CallAt.mk _ (f10 ..) (by first | (intro h; cases h; done) | (intro _; repeat' (first | exact List.forall_mem_nil _ | trivial | refine List.forall_mem_cons.2 ⟨?_, ?_⟩)) | (intro _; simp [RV.flatP, CD.flatP]; done)) ?_ | refine CallAtG.mk _ (fun _ => f10 ..) ?_ | refine CallDS.mk _ (by simp [RV.data]) (fun _ => f10 ..) (by first | (intro h; cases h; done) | (intro _; repeat' (first | exact List.forall_mem_nil _ | trivial | refine List.forall_mem_cons.2 ⟨?_, ?_⟩)) | (intro _; simp [RV.flatP, CD.flatP]; done)) ?_ | refine CallAt.mk _ (f11 ..) (by first | (intro h; cases h; done) | (intro _; repeat' (first | exact List.forall_mem_nil _ | trivial | refine List.forall_mem_cons.2 ⟨?_, ?_⟩)) | (intro _; simp [RV.flatP, CD.flatP]; done)) ?_ | refine CallAtG.mk _ (fun _ => f11 ..) ?_ | refine CallDS.mk _ (by simp [RV.data]) (fun _ => f11 ..) (by first | (intro h; cases h; done) | (intro _; repeat' (first | exact List.forall_mem_nil _ | trivial | refine List.forall_mem_cons.2 ⟨?_, ?_⟩)) | (intro _; simp [RV.flatP, CD.flatP]; done)) ?_ | refine CallAt.mk _ (g29 ..) (by first | (intro h; cases h; done) | (intro _; repeat' (first | exact List.forall_mem_nil _ | trivial | refine List.forall_mem_cons.2 ⟨?_, ?_⟩)) | (intro _; simp [RV.flatP, CD.flatP]; done)) ?_ | refine CallAtG.mk _ (fun _ => g29 ..) ?_ | refine CallDS.mk _ (by simp [RV.data]) (fun _ => g29 ..) (by first | (intro h; cases h; done) | (intro _; repeat' (first | exact List.forall_mem_nil _ | trivial | refine List.forall_mem_cons.2 ⟨?_, ?_⟩)) | (intro _; simp [RV.flatP, CD.flatP]; done)) ?_ | refine CallAt.mk _ (g30 ..) (by first | (intro h; cases h; done) | (intro _; repeat' (first | exact List.forall_mem_nil _ | trivial | refine List.forall_mem_cons.2 ⟨?_, ?_⟩)) | (intro _; simp [RV.flatP, CD.flatP]; done)) ?_ | refine CallAtG.mk _ (fun _ => g30 ..) ?_ | refine CallDS.mk _ (by simp [RV.data]) (fun _ => g30 ..) (by first | (intro h; cases h; done) | (intro _; repeat' (first | exact List.forall_mem_nil _ | trivial | refine List.forall_mem_cons.2 ⟨?_, ?_⟩)) | (intro _; simp [RV.flatP, CD.flatP]; done)) ?_ | refine CallAt.mk _ (g31 ..) (by first | (intro h; cases h; done) | (intro _; repeat' (first | exact List.forall_mem_nil _ | trivial | refine List.forall_mem_cons.2 ⟨?_, ?_⟩)) | (intro _; simp [RV.flatP, CD.flatP]; done)) ?_ | refine CallAtG.mk _ (fun _ => g31 ..) ?_ | refine CallDS.mk _ (by simp [RV.data]) (fun _ => g31 ..) (by first | (intro h; cases h; done) | (intro _; repeat' (first | exact List.forall_mem_nil _ | trivial | refine List.forall_mem_cons.2 ⟨?_, ?_⟩)) | (intro _; simp [RV.flatP, CD.flatP]; done)) ?_); try simp (disch := omega) only [go_sem, seval, reduceCtorEq, ↓reduceIte, beq_dec, Int.toNat_natCast, IntKind.signed, IntKind.bits]) | refine And.intro (fun hc => (?_ : AW _ _ _ _)) (fun hc => (?_ : AW _ _ _ _)) | simp (disch := omega) only [go_sem, seval, reduceCtorEq, ↓reduceIte, beq_dec, Int.toNat_natCast, IntKind.signed, IntKind.bits] | (refine And.intro ?_ ?_; focus (first | (intros; omega) | (intros; simp_all; done))) | refine And.intro (?_ : CallAt _ _ _ _ _ _ _ _) ?_ | refine And.intro (?_ : CallAt _ _ _ _ _ _ _ _ ∧ _) ?_ | refine And.intro (?_ : AW _ _ _ _) ?_ | fail))
    · obtain ⟨k, rfl⟩ : ∃ n : Nat, k = n := ⟨k.toNat, by omega⟩
      have g29 := f29v g k hv (by omega)
      have g30 := f30p g k hv (by omega)
      have g31 := f31s (partR g (nth (chG g) k))
      refine fn_walk code7 (by simp) ?_
      (repeat' (first | refine NextAt.mk (fun hc => ?_) (fun pre n v post hc hkey => ?_) | refine Sni.mk (fun hc => ?_) ?_ | refine Both.mk ?_ ?_ | refine AW_seq ?_ | refine AW_block ?_ | ((first | refine AW_reg ?_ | refine AW_cond ?_ | refine AW_skip ?_ | refine AW_exit ?_ | refine AW_ret ?_ | refine AW_regD (by kernel_rfl) ?_ | refine AW_regX (by kernel_rfl) ?_ | refine CallAtG.t (Eq.refl true) ?_ | refine CallAtG.f (Eq.refl false) ?_ | refine CallAt.mk _ (f10 ..) (by first | (intro h; cases h; done) | (intro _; repeat' (first | exact List.forall_mem_nil _ | trivial | refine List.forall_mem_cons.2 ⟨?_, ?_⟩)) | (intro _; simp [RV.flatP, CD.flatP]; done)) ?_ | refine CallAtG.mk _ (fun _ => f10 ..) ?_ | refine CallDS.mk _ (by simp [RV.data]) (fun _ => f10 ..) (by first | (intro h; cases h; done) | (intro _; repeat' (first | exact List.forall_mem_nil _ | trivial | refine List.forall_mem_cons.2 ⟨?_, ?_⟩)) | (intro _; simp [RV.flatP, CD.flatP]; done)) ?_ | refine CallAt.mk _ (f11 ..) (by first | (intro h; cases h; done) | (intro _; repeat' (first | exact List.forall_mem_nil _ | trivial | refine List.forall_mem_cons.2 ⟨?_, ?_⟩)) | (intro _; simp [RV.flatP, CD.flatP]; done)) ?_ | refine CallAtG.mk _ (fun _ => f11 ..) ?_ | refine CallDS.mk _ (by simp [RV.data]) (fun _ => f11 ..) (by first | (intro h; cases h; done) | (intro _; repeat' (first | exact List.forall_mem_nil _ | trivial | refine List.forall_mem_cons.2 ⟨?_, ?_⟩)) | (intro _; simp [RV.flatP, CD.flatP]; done)) ?_ | refine CallAt.mk _ (g29 ..) (by first | (intro h; cases h; done) | (intro _; repeat' (first | exact List.forall_mem_nil _ | trivial | refine List.forall_mem_cons.2 ⟨?_, ?_⟩)) | (intro _; simp [RV.flatP, CD.flatP]; done)) ?_ | refine CallAtG.mk _ (fun _ => g29 ..) ?_ | refine CallDS.mk _ (by simp [RV.data]) (fun _ => g29 ..) (by first | (intro h; cases h; done) | (intro _; repeat' (first | exact List.forall_mem_nil _ | trivial | refine List.forall_mem_cons.2 ⟨?_, ?_⟩)) | (intro _; simp [RV.flatP, CD.flatP]; done)) ?_ | refine CallAt.mk _ (g30 ..) (by first | (intro h; cases h; done) | (intro _; repeat' (first | exact List.forall_mem_nil _ | trivial | refine List.forall_mem_cons.2 ⟨?_, ?_⟩)) | (intro _; simp [RV.flatP, CD.flatP]; done)) ?_ | refine CallAtG.mk _ (fun _ => g30 ..) ?_ | refine CallDS.mk _ (by simp [RV.data]) (fun _ => g30 ..) (by first | (intro h; cases h; done) | (intro _; repeat' (first | exact List.forall_mem_nil _ | trivial | refine List.forall_mem_cons.2 ⟨?_, ?_⟩)) | (intro _; simp [RV.flatP, CD.flatP]; done)) ?_ | refine CallAt.mk _ (g31 ..) (by first | (intro h; cases h; done) | (intro _; repeat' (first | exact List.forall_mem_nil _ | trivial | refine List.forall_mem_cons.2 ⟨?_, ?_⟩)) | (intro _; simp [RV.flatP, CD.flatP]; done)) ?_ | refine CallAtG.mk _ (fun _ => g31 ..) ?_ | refine CallDS.mk _ (by simp [RV.data]) (fun _ => g31 ..) (by first | (intro h; cases h; done) | (intro _; repeat' (first | exact List.forall_mem_nil _ | trivial | refine List.forall_mem_cons.2 ⟨?_, ?_⟩)) | (intro _; simp [RV.flatP, CD.flatP]; done)) ?_); try simp (disch := omega) only [go_sem, seval, reduceCtorEq, ↓reduceIte, beq_dec, Int.toNat_natCast, IntKind.signed, IntKind.bits]) | refine And.intro (fun hc => (?_ : AW _ _ _ _)) (fun hc => (?_ : AW _ _ _ _)) | simp (disch := omega) only [go_sem, seval, reduceCtorEq, ↓reduceIte, beq_dec, Int.toNat_natCast, IntKind.signed, IntKind.bits] | (refine And.intro ?_ ?_; focus (first | (intros; omega) | (intros; simp_all; done))) | refine And.intro (?_ : CallAt _ _ _ _ _ _ _ _) ?_ | refine And.intro (?_ : CallAt _ _ _ _ _ _ _ _ ∧ _) ?_ | refine And.intro (?_ : AW _ _ _ _) ?_ | fail))
end Go.Proofs.Ytlomngideedobaa

