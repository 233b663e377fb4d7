/-
  Lemmas for the proof: no statement of its own.
-/
import Derived.Test.YtgldpbghbkoolaaWalkO
set_option linter.unusedVariables false
set_option linter.unusedSimpArgs false
-- P p_15.txt
open Go Go.AL Go.RowKit
namespace Go.Proofs.Ytgldpbghbkoolaa
set_option maxRecDepth 20000
theorem all_cc {g : Gr} (hv : validG g = true) : (ptS (esG g) (fun _ => true) (nG g) (esG g).length).c = ccG g [] := by
  rw [pt_count hv]
  have h1 : cc (Jn (usedL g.links (fun _ => true) g.links.length)) (diesG g) = ccG g [] := cc_congr _ fun x _ y _ => (used_all g.links x y).trans (jn_set (fun x => by rw [notIn_mem]; simp) x y)
  rw [h1]
theorem hi_cc {g : Gr} (hv : validG g = true) {v : Nat} (hvl : v < (diesG g).length) : (ptS (esG g) (hiU (esG g) v) (nG g) (esG g).length).c = ccG g (touI g.links (nth (diesG g) v) g.links.length) := by
  rw [pt_count hv]
  refine congrArg (fun z : Nat => (z : Int)) (cc_congr _ fun x _ y _ => used_out (fun i hi => ?_) x y)
  have hm := valid_ends hv _ (nth_mem'' g.links i hi)
  have hx : ∀ {d : Die}, d ∈ diesG g → (plN (diesG g) d = v ↔ d = nth (diesG g) v) := fun {d} hd => ⟨fun h => by rw [← h]; exact (plN_mem hd).2.symm, fun h => by rw [h]; exact plN_nth (dies_nodup hv) hvl⟩
  unfold hiU
  rw [esG_nth hv hi]
  simp only [Bool.and_eq_true, decide_eq_true_eq]
  constructor
  · rintro ⟨h1, h2⟩ hmem
    obtain ⟨l, hl, ha, he⟩ := touI_mem.1 hmem
    obtain ⟨j, hj, rfl⟩ := mem_nth hl
    obtain rfl := id_inj (valid_ids hv) hj hi he
    obtain ⟨y, hy⟩ := Option.isSome_iff_exists.1 ha
    rcases across_iff.1 hy with ⟨e, _⟩ | ⟨e, _⟩
    · exact h1 ((hx hm.1).2 e.symm)
    · exact h2 ((hx hm.2).2 e.symm)
  · intro h
    constructor
    · intro e
      exact h (touI_mem.2 ⟨_, nth_mem'' g.links i hi, Option.isSome_iff_exists.2 ⟨_, across_iff.2 (.inl ⟨((hx hm.1).1 e).symm, rfl⟩)⟩, rfl⟩)
    · intro e
      exact h (touI_mem.2 ⟨_, nth_mem'' g.links i hi, Option.isSome_iff_exists.2 ⟨_, across_iff.2 (.inr ⟨((hx hm.2).1 e).symm, rfl⟩)⟩, rfl⟩)
theorem n25e (g : Gr) (hv : validG g = false) : FnR Try.prog 25 [g.av] [.c .nil, .c (.I 1)] := by
  have g37 := f41 g
  have e0 : errV g = 1 := by unfold errV; rw [hv]; rfl
  rw [e0] at g37
  refine fn_walk code25 (by simp) ?_
  (repeat' (first | refine NextAt.mk (fun hc => ?_) (fun pre n v post hc hkey => ?_) | refine Sni.mk (fun hc => ?_) ?_ | refine Both.mk ?_ ?_ | refine AW_seq ?_ | refine AW_block ?_ | ((first | refine AW_reg ?_ | refine AW_cond ?_ | refine AW_skip ?_ | refine AW_exit ?_ | refine AW_ret ?_ | refine AW_regD (by kernel_rfl) ?_ | refine AW_regX (by kernel_rfl) ?_ | refine CallAtG.t (Eq.refl true) ?_ | refine CallAtG.f (Eq.refl false) ?_ | refine CallAt.mk _ (g37 ..) (by first | (intro h; cases h; done) | (intro _; repeat' (first | exact List.forall_mem_nil _ | trivial | refine List.forall_mem_cons.2 ⟨?_, ?_⟩)) | (intro _; simp [RV.flatP, CD.flatP]; done)) ?_ | refine CallAtG.mk _ (fun _ => g37 ..) ?_ | refine CallDS.mk _ (by simp [RV.data]) (fun _ => g37 ..) (by first | (intro h; cases h; done) | (intro _; repeat' (first | exact List.forall_mem_nil _ | trivial | refine List.forall_mem_cons.2 ⟨?_, ?_⟩)) | (intro _; simp [RV.flatP, CD.flatP]; done)) ?_); try simp (disch := omega) only [go_sem, seval, reduceCtorEq, ↓reduceIte, beq_dec, Int.toNat_natCast, IntKind.signed, IntKind.bits]) | refine And.intro (fun hc => (?_ : AW _ _ _ _)) (fun hc => (?_ : AW _ _ _ _)) | simp (disch := omega) only [go_sem, seval, reduceCtorEq, ↓reduceIte, beq_dec, Int.toNat_natCast, IntKind.signed, IntKind.bits] | (refine And.intro ?_ ?_; focus (first | (intros; omega) | (intros; simp_all; done))) | refine And.intro (?_ : CallAt _ _ _ _ _ _ _ _) ?_ | refine And.intro (?_ : CallAt _ _ _ _ _ _ _ _ ∧ _) ?_ | refine And.intro (?_ : AW _ _ _ _) ?_ | fail))
set_option maxHeartbeats 4000000 in
theorem n25 (g : Gr) (hv : validG g = true) : FnR Try.prog 25 [g.av] [.own 27 2 ((hingesG g).map Die.cd), .c (.I 0)] := by
  have g37 := f41 g
  rw [dies_valid hv, errV_valid hv] at g37
  have hsm := valid_small hv
  have hdl := dies_len g
  have g34 := n34 g hv
  have hl := esG_len g
  have g40a := n40a (nG g) (idsG g) (esG g) (by unfold nG; omega) (esG_lt hv) (by omega)
  rw [all_cc hv] at g40a
  have hcl := ccG_le g []
  unfold hingesG
  refine fn_walk code25 (by simp) ?_
  (repeat' (first | refine NextAt.mk (fun hc => ?_) (fun pre n v post hc hkey => ?_) | refine Sni.mk (fun hc => ?_) ?_ | refine Both.mk ?_ ?_ | refine AW_seq ?_ | refine AW_block ?_ | ((first | refine AW_reg ?_ | refine AW_cond ?_ | refine AW_skip ?_ | refine AW_exit ?_ | refine AW_ret ?_ | refine AW_regD (by kernel_rfl) ?_ | refine AW_regX (by kernel_rfl) ?_ | refine CallAtG.t (Eq.refl true) ?_ | refine CallAtG.f (Eq.refl false) ?_ | refine CallAt.mk _ (g37 ..) (by first | (intro h; cases h; done) | (intro _; repeat' (first | exact List.forall_mem_nil _ | trivial | refine List.forall_mem_cons.2 ⟨?_, ?_⟩)) | (intro _; simp [RV.flatP, CD.flatP, List.length_map]; done)) ?_ | refine CallAtG.mk _ (fun _ => g37 ..) ?_ | refine CallDS.mk _ (by simp [RV.data]) (fun _ => g37 ..) (by first | (intro h; cases h; done) | (intro _; repeat' (first | exact List.forall_mem_nil _ | trivial | refine List.forall_mem_cons.2 ⟨?_, ?_⟩)) | (intro _; simp [RV.flatP, CD.flatP, List.length_map]; done)) ?_ | refine CallAt.mk _ (g34 ..) (by first | (intro h; cases h; done) | (intro _; repeat' (first | exact List.forall_mem_nil _ | trivial | refine List.forall_mem_cons.2 ⟨?_, ?_⟩)) | (intro _; simp [RV.flatP, CD.flatP, List.length_map]; done)) ?_ | refine CallAtG.mk _ (fun _ => g34 ..) ?_ | refine CallDS.mk _ (by simp [RV.data]) (fun _ => g34 ..) (by first | (intro h; cases h; done) | (intro _; repeat' (first | exact List.forall_mem_nil _ | trivial | refine List.forall_mem_cons.2 ⟨?_, ?_⟩)) | (intro _; simp [RV.flatP, CD.flatP, List.length_map]; done)) ?_ | refine CallAt.mk _ (g40a ..) (by first | (intro h; cases h; done) | (intro _; repeat' (first | exact List.forall_mem_nil _ | trivial | refine List.forall_mem_cons.2 ⟨?_, ?_⟩)) | (intro _; simp [RV.flatP, CD.flatP, List.length_map]; done)) ?_ | refine CallAtG.mk _ (fun _ => g40a ..) ?_ | refine CallDS.mk _ (by simp [RV.data]) (fun _ => g40a ..) (by first | (intro h; cases h; done) | (intro _; repeat' (first | exact List.forall_mem_nil _ | trivial | refine List.forall_mem_cons.2 ⟨?_, ?_⟩)) | (intro _; simp [RV.flatP, CD.flatP, List.length_map]; done)) ?_); try simp (disch := omega) only [go_sem, seval, reduceCtorEq, ↓reduceIte, beq_dec, Int.toNat_natCast, IntKind.signed, IntKind.bits, List.length_map]) | refine And.intro (fun hc => (?_ : AW _ _ _ _)) (fun hc => (?_ : AW _ _ _ _)) | simp (disch := omega) only [go_sem, seval, reduceCtorEq, ↓reduceIte, beq_dec, Int.toNat_natCast, IntKind.signed, IntKind.bits, List.length_map] | (refine And.intro ?_ ?_; focus (first | (intros; omega) | (intros; simp_all; done))) | refine And.intro (?_ : CallAt _ _ _ _ _ _ _ _) ?_ | refine And.intro (?_ : CallAt _ _ _ _ _ _ _ _ ∧ _) ?_ | refine And.intro (?_ : AW _ _ _ _) ?_ | fail))
  refine AW_nil 9 900 27 2 (by rfl) ?_
  refine AW_loopK [6, 8, 29, 30] [9, 10, 11, 12, 13, 31, 32, 33, 34, 35, 36, 37, 38, 39, 40, 41, 42, 43, 44, 45, 46, 47, 48, 49, 50] (fun i : Nat => i ≤ (diesG g).length) (fun i => [(31, .I i), (9, .own 900)]) (fun i => [(900, .arr 27 2 ((hinL g i).map Die.cd))]) (fun i => (diesG g).length - i) 0 (by omega) ?_ ?_
  · simp (disch := omega) only [go_sem, seval, reduceCtorEq, ↓reduceIte, beq_dec, Int.toNat_natCast, IntKind.signed, IntKind.bits, Int.natCast_zero, hinL, List.take_zero, List.filter_nil, List.map_nil]
  · intro i hi
    have hbl := hinL_len g i hi
    rcases Nat.lt_or_ge i (diesG g).length with hil | hil
    · have hsuc := hinL_succ g i hil
      generalize hinL g i = z at *
      have g40 := FnW.low (n40c (nG g) (idsG g) (esG g) i (by unfold nG; omega) (esG_lt hv) (by omega))
      have r5 : rn 1000006 = 6 := rfl
      have r6 : rn 1000010 = 10 := rfl
      rw [hi_cc hv hil] at g40
      simp only [netAV, renL, AV.ren, renOb, AO.ren, List.map_cons, List.map_nil, r5, r6] at g40
      have hcl' := ccG_le g (touI g.links (nth (diesG g) i) g.links.length)
      unfold hinB at hsuc
      generalize hc' : ccG g (touI g.links (nth (diesG g) i) g.links.length) = c' at *
      generalize hd : nth (diesG g) i = d at *
      (repeat' (first | refine NextAt.mk (fun hc => ?_) (fun pre n v post hc hkey => ?_) | refine Sni.mk (fun hc => ?_) ?_ | refine Both.mk ?_ ?_ | refine AW_seq ?_ | refine AW_block ?_ | ((first | refine AW_reg ?_ | refine AW_cond ?_ | refine AW_skip ?_ | refine AW_exit ?_ | refine AW_ret ?_ | refine AW_regD (by kernel_rfl) ?_ | refine AW_regX (by kernel_rfl) ?_ | refine CallAt.mkW (g40 ..) (by rfl) (by simp (disch := omega) only [go_sem, seval, reduceCtorEq, ↓reduceIte, beq_dec, Int.toNat_natCast, IntKind.signed, IntKind.bits, List.length_map, getD_map Die.cd, Die.cd, hd, maxLen, inK]) (by rfl) (by rfl) (by first | (intro h; cases h; done) | (intro _; simp [RV.flatP, CD.flatP, flatOb, AO.flatP, List.length_map, getD_map Die.cd, Die.cd, hd, maxLen, inK]; done)) ?_ | refine CallAtG.t (Eq.refl true) ?_ | refine CallAtG.f (Eq.refl false) ?_); try simp (disch := omega) only [go_sem, seval, reduceCtorEq, ↓reduceIte, beq_dec, Int.toNat_natCast, IntKind.signed, IntKind.bits, List.length_map, getD_map Die.cd, Die.cd, hd, maxLen, inK]) | refine And.intro (fun hc => (?_ : AW _ _ _ _)) (fun hc => (?_ : AW _ _ _ _)) | simp (disch := omega) only [go_sem, seval, reduceCtorEq, ↓reduceIte, beq_dec, Int.toNat_natCast, IntKind.signed, IntKind.bits, List.length_map, getD_map Die.cd, Die.cd, hd, maxLen, inK] | (refine And.intro ?_ ?_; focus (first | (intros; omega) | (intros; simp_all; done))) | refine And.intro (?_ : CallAt _ _ _ _ _ _ _ _) ?_ | refine And.intro (?_ : CallAt _ _ _ _ _ _ _ _ ∧ _) ?_ | refine And.intro (?_ : AW _ _ _ _) ?_ | refine And.intro (?_ : _ ∧ _) ?_ | fail))
      all_goals first
        | (exfalso; omega)
        | omega
        | (refine .mk (i + 1) (by omega) (by omega) ?_
           rw [hsuc, if_pos (decide_eq_true (by omega)), List.map_append, List.map_cons, List.map_nil, Die.cd]
           simp (disch := omega) only [go_sem, seval, reduceCtorEq, ↓reduceIte, beq_dec, Int.toNat_natCast, IntKind.signed, IntKind.bits, Int.natCast_add, Int.natCast_one]
           done)
        | (refine .mk (i + 1) (by omega) (by omega) ?_
           rw [hsuc, if_neg (by simp; omega), List.append_nil]
           simp (disch := omega) only [go_sem, seval, reduceCtorEq, ↓reduceIte, beq_dec, Int.toNat_natCast, IntKind.signed, IntKind.bits, Int.natCast_add, Int.natCast_one]
           done)
        | trace_state
    · obtain rfl : i = (diesG g).length := by omega
      (repeat' (first | refine NextAt.mk (fun hc => ?_) (fun pre n v post hc hkey => ?_) | refine Sni.mk (fun hc => ?_) ?_ | refine Both.mk ?_ ?_ | refine AW_seq ?_ | refine AW_block ?_ | ((first | refine AW_reg ?_ | refine AW_cond ?_ | refine AW_skip ?_ | refine AW_exit ?_ | refine AW_ret ?_ | refine AW_regD (by kernel_rfl) ?_ | refine AW_regX (by kernel_rfl) ?_ | refine CallAtG.t (Eq.refl true) ?_ | refine CallAtG.f (Eq.refl false) ?_); try simp (disch := omega) only [go_sem, seval, reduceCtorEq, ↓reduceIte, beq_dec, Int.toNat_natCast, IntKind.signed, IntKind.bits, List.length_map]) | refine And.intro (fun hc => (?_ : AW _ _ _ _)) (fun hc => (?_ : AW _ _ _ _)) | simp (disch := omega) only [go_sem, seval, reduceCtorEq, ↓reduceIte, beq_dec, Int.toNat_natCast, IntKind.signed, IntKind.bits, List.length_map] | (refine And.intro ?_ ?_; focus (first | (intros; omega) | (intros; simp_all; done))) | refine And.intro (?_ : CallAt _ _ _ _ _ _ _ _) ?_ | refine And.intro (?_ : CallAt _ _ _ _ _ _ _ _ ∧ _) ?_ | refine And.intro (?_ : AW _ _ _ _) ?_ | fail))
      all_goals (exfalso; omega)
end Go.Proofs.Ytgldpbghbkoolaa

