/-
  Lemmas for the proof: no statement of its own.
-/
import Derived.Test.YtlomngideedobaaWalkG
import Derived.Test.YtlomngideedobaaWalkE
import Derived.Test.YtlomngideedobaaWalkH
set_option linter.unusedVariables false
set_option linter.unusedSimpArgs false
-- P p_14.txt
open Go Go.AL Go.RowKit
namespace Go.Proofs.Ytlomngideedobaa
set_option maxRecDepth 20000
/-! ### the graph of a component -/
def obvs (c : List Die) : List Int := (c.filter fun d => decide (d.side = 0)).map Die.num
def revs (c : List Die) : List Int := (c.filter fun d => decide (¬ d.side = 0)).map Die.num
def lkIn (o : List Int) (ls : List Lk) : List Lk := ls.filter fun x => decide (x.obv ∈ o)
def partR (g : Gr) (c : List Die) : Gr := ⟨obvs c, revs c, lkIn (obvs c) g.links⟩
theorem obvs_take (c : List Die) (i : Nat) (h : i < c.length) : obvs (c.take (i + 1)) = obvs (c.take i) ++ if (nth c i).side = 0 then [(nth c i).num] else [] := by
  unfold obvs
  rw [List.take_succ_eq_append_getElem h, List.filter_append, List.map_append, nth_eq c i h]
  congr 1
  simp only [List.filter_cons, List.filter_nil, decide_eq_true_eq]
  split <;> rfl
theorem revs_take (c : List Die) (i : Nat) (h : i < c.length) : revs (c.take (i + 1)) = revs (c.take i) ++ if (nth c i).side = 0 then [] else [(nth c i).num] := by
  unfold revs
  rw [List.take_succ_eq_append_getElem h, List.filter_append, List.map_append, nth_eq c i h]
  congr 1
  simp only [List.filter_cons, List.filter_nil, decide_eq_true_eq, ite_not]
  split <;> rfl
theorem lkIn_take (o : List Int) (c : List Lk) (i : Nat) (h : i < c.length) : lkIn o (c.take (i + 1)) = lkIn o (c.take i) ++ if (nth c i).obv ∈ o then [nth c i] else [] := by
  unfold lkIn
  rw [List.take_succ_eq_append_getElem h, List.filter_append, nth_eq c i h]
  congr 1
  simp only [List.filter_cons, List.filter_nil, decide_eq_true_eq]
theorem obvs_len (c : List Die) (i : Nat) (h : i ≤ c.length) : (obvs (c.take i)).length ≤ i := by
  unfold obvs; rw [List.length_map]
  exact Nat.le_trans (List.length_filter_le _ _) (by simp; omega)
theorem revs_len (c : List Die) (i : Nat) (h : i ≤ c.length) : (revs (c.take i)).length ≤ i := by
  unfold revs; rw [List.length_map]
  exact Nat.le_trans (List.length_filter_le _ _) (by simp; omega)
theorem lkIn_len (o : List Int) (c : List Lk) (i : Nat) (h : i ≤ c.length) : (lkIn o (c.take i)).length ≤ i := by
  unfold lkIn
  exact Nat.le_trans (List.length_filter_le _ _) (by simp; omega)
theorem hold29 {Q : Exit → St → Prop} {σ : St} (h : Hold (AW Try.prog c29_49 Q σ)) : AW Try.prog c29_49 Q σ := h.out
theorem f29e (g : Gr) (k : Int) (hv : validG g = false) : FnR Try.prog 29 [g.av, .I k] [.agg [.nil, .nil, .nil], .c (.I 1)] := by
  have g20 := f20e g hv
  refine fn_walk code29 (by simp) ?_
  (repeat' (first | refine NextAt.mk (fun hc => ?_) (fun pre n v post hc hkey => ?_) | refine Sni.mk (fun hc => ?_) ?_ | refine Both.mk ?_ ?_ | refine AW_seq ?_ | refine AW_block ?_ | ((first | refine AW_reg ?_ | refine AW_cond ?_ | refine AW_skip ?_ | refine AW_exit ?_ | refine AW_ret ?_ | refine AW_regD (by kernel_rfl) ?_ | refine AW_regX (by kernel_rfl) ?_ | refine CallAtG.t (Eq.refl true) ?_ | refine CallAtG.f (Eq.refl false) ?_ | refine CallAt.mk _ (g20 ..) (by first | (intro h; cases h; done) | (intro _; repeat' (first | exact List.forall_mem_nil _ | trivial | refine List.forall_mem_cons.2 ⟨?_, ?_⟩)) | (intro _; simp [RV.flatP, CD.flatP]; done)) ?_ | refine CallAtG.mk _ (fun _ => g20 ..) ?_ | refine CallDS.mk _ (by simp [RV.data]) (fun _ => g20 ..) (by first | (intro h; cases h; done) | (intro _; repeat' (first | exact List.forall_mem_nil _ | trivial | refine List.forall_mem_cons.2 ⟨?_, ?_⟩)) | (intro _; simp [RV.flatP, CD.flatP]; done)) ?_); try simp (disch := omega) only [go_sem, seval, reduceCtorEq, ↓reduceIte, beq_dec, Int.toNat_natCast, IntKind.signed, IntKind.bits]) | refine And.intro (fun hc => (?_ : AW _ _ _ _)) (fun hc => (?_ : AW _ _ _ _)) | simp (disch := omega) only [go_sem, seval, reduceCtorEq, ↓reduceIte, beq_dec, Int.toNat_natCast, IntKind.signed, IntKind.bits] | (refine And.intro ?_ ?_; focus (first | (intros; omega) | (intros; simp_all; done))) | refine And.intro (?_ : CallAt _ _ _ _ _ _ _ _) ?_ | refine And.intro (?_ : CallAt _ _ _ _ _ _ _ _ ∧ _) ?_ | refine And.intro (?_ : AW _ _ _ _) ?_ | fail))
theorem chG_len {g : Gr} (hv : validG g = true) : (chG g).length ≤ 64 := by
  have hlen := dies_len g
  have hsm := valid_small hv
  have := chS_len (partsG g) (diesG g) (diesG g).length; unfold chG; omega
theorem f29n (g : Gr) (k : Int) (hv : validG g = true) (hk : k < 0 ∨ ((chG g).length : Int) ≤ k) : FnR Try.prog 29 [g.av, .I k] [.agg [.nil, .nil, .nil], .c (.I 7)] := by
  have g20 := f20v g hv
  have hc := chG_len hv
  refine fn_walk code29 (by simp) ?_
  (repeat' (first | refine NextAt.mk (fun hc => ?_) (fun pre n v post hc hkey => ?_) | refine Sni.mk (fun hc => ?_) ?_ | refine Both.mk ?_ ?_ | refine AW_seq ?_ | refine AW_block ?_ | ((first | refine AW_reg ?_ | refine AW_cond ?_ | refine AW_skip ?_ | refine AW_exit ?_ | refine AW_ret ?_ | refine AW_regD (by kernel_rfl) ?_ | refine AW_regX (by kernel_rfl) ?_ | refine CallAtG.t (Eq.refl true) ?_ | refine CallAtG.f (Eq.refl false) ?_ | refine CallAt.mk _ (g20 ..) (by first | (intro h; cases h; done) | (intro _; repeat' (first | exact List.forall_mem_nil _ | trivial | refine List.forall_mem_cons.2 ⟨?_, ?_⟩)) | (intro _; simp [RV.flatP, CD.flatP, List.length_map]; done)) ?_ | refine CallAtG.mk _ (fun _ => g20 ..) ?_ | refine CallDS.mk _ (by simp [RV.data]) (fun _ => g20 ..) (by first | (intro h; cases h; done) | (intro _; repeat' (first | exact List.forall_mem_nil _ | trivial | refine List.forall_mem_cons.2 ⟨?_, ?_⟩)) | (intro _; simp [RV.flatP, CD.flatP, List.length_map]; done)) ?_); try simp (disch := omega) only [go_sem, seval, reduceCtorEq, ↓reduceIte, beq_dec, Int.toNat_natCast, IntKind.signed, IntKind.bits, List.length_map]) | refine And.intro (fun hc => (?_ : AW _ _ _ _)) (fun hc => (?_ : AW _ _ _ _)) | simp (disch := omega) only [go_sem, seval, reduceCtorEq, ↓reduceIte, beq_dec, Int.toNat_natCast, IntKind.signed, IntKind.bits, List.length_map] | (refine And.intro ?_ ?_; focus (first | (intros; omega) | (intros; simp_all; done))) | refine And.intro (?_ : CallAt _ _ _ _ _ _ _ _) ?_ | refine And.intro (?_ : CallAt _ _ _ _ _ _ _ _ ∧ _) ?_ | refine And.intro (?_ : AW _ _ _ _) ?_ | fail))
  all_goals (exfalso; omega)
theorem chG_row {g : Gr} (hv : validG g = true) (k : Nat) : (chG g).getD k [] = rowI (partsG g) (diesG g) k (diesG g).length := by
  have h1 := chS_getD (partsG g) (diesG g) (fun i hi => by
    have h1 := pI_step g.links (diesG g) i hi
    have h2 := chS_p g.links (diesG g) i (by omega)
    rw [partsG_pI, h2]
    exact ⟨h1.1, h1.2.1⟩) _ (Nat.le_refl _) k
  rw [← h1]; rfl
theorem chG_rowlen {g : Gr} (hv : validG g = true) (k : Nat) : (nth (chG g) k).length ≤ 64 := by
  have h1 := chG_row hv k
  have h2 := rowI_len (partsG g) (diesG g) k (diesG g).length
  have hlen := dies_len g
  have hsm := valid_small hv
  have h3 : nth (chG g) k = (chG g).getD k [] := rfl
  rw [h3, h1]; omega
set_option maxHeartbeats 8000000 in
theorem f29v (g : Gr) (k : Nat) (hv : validG g = true) (hk : k < (chG g).length) : FnR Try.prog 29 [g.av, .I k] [.agg [Row (partR g (nth (chG g) k)).obv, Row (partR g (nth (chG g) k)).rev, LL (partR g (nth (chG g) k)).links], .c (.I 0)] := by
  have g20 := f20v g hv
  have hc := chG_len hv
  have hr := chG_rowlen hv k
  have hsm := valid_small hv
  refine fn_walk code29 (by simp) ?_
  (repeat' (first | refine NextAt.mk (fun hc => ?_) (fun pre n v post hc hkey => ?_) | refine Sni.mk (fun hc => ?_) ?_ | refine Both.mk ?_ ?_ | refine AW_seq ?_ | refine AW_block ?_ | ((first | refine AW_reg ?_ | refine AW_cond ?_ | refine AW_skip ?_ | refine AW_exit ?_ | refine AW_ret ?_ | refine AW_regD (by kernel_rfl) ?_ | refine AW_regX (by kernel_rfl) ?_ | refine CallAtG.t (Eq.refl true) ?_ | refine CallAtG.f (Eq.refl false) ?_ | refine CallAt.mk _ (g20 ..) (by first | (intro h; cases h; done) | (intro _; repeat' (first | exact List.forall_mem_nil _ | trivial | refine List.forall_mem_cons.2 ⟨?_, ?_⟩)) | (intro _; simp [RV.flatP, CD.flatP, List.length_map, getD_map (fun c : List Die => [DL c])]; done)) ?_ | refine CallAtG.mk _ (fun _ => g20 ..) ?_ | refine CallDS.mk _ (by simp [RV.data]) (fun _ => g20 ..) (by first | (intro h; cases h; done) | (intro _; repeat' (first | exact List.forall_mem_nil _ | trivial | refine List.forall_mem_cons.2 ⟨?_, ?_⟩)) | (intro _; simp [RV.flatP, CD.flatP, List.length_map, getD_map (fun c : List Die => [DL c])]; done)) ?_); try simp (disch := omega) only [go_sem, seval, reduceCtorEq, ↓reduceIte, beq_dec, Int.toNat_natCast, IntKind.signed, IntKind.bits, List.length_map, getD_map (fun c : List Die => [DL c])]) | refine And.intro (fun hc => (?_ : AW _ _ _ _)) (fun hc => (?_ : AW _ _ _ _)) | simp (disch := omega) only [go_sem, seval, reduceCtorEq, ↓reduceIte, beq_dec, Int.toNat_natCast, IntKind.signed, IntKind.bits, List.length_map, getD_map (fun c : List Die => [DL c])] | (refine And.intro ?_ ?_; focus (first | (intros; omega) | (intros; simp_all; done))) | refine And.intro (?_ : CallAt _ _ _ _ _ _ _ _) ?_ | refine And.intro (?_ : CallAt _ _ _ _ _ _ _ _ ∧ _) ?_ | refine And.intro (?_ : AW _ _ _ _) ?_ | fail))
  · exfalso; omega
  generalize nth (chG g) k = c at *
  refine AW_nilB 8 0 900 3 1 25 _ (by rfl) (by rfl) ?_
  simp (disch := omega) only [go_sem, seval, reduceCtorEq, ↓reduceIte, beq_dec, Int.toNat_natCast, IntKind.signed, IntKind.bits]
  refine AW_nilB 8 1 901 3 1 25 _ (by rfl) (by rfl) ?_
  simp (disch := omega) only [go_sem, seval, reduceCtorEq, ↓reduceIte, beq_dec, Int.toNat_natCast, IntKind.signed, IntKind.bits]
  refine AW_nilB 8 2 902 47 3 25 _ (by rfl) (by rfl) ?_
  simp (disch := omega) only [go_sem, seval, reduceCtorEq, ↓reduceIte, beq_dec, Int.toNat_natCast, IntKind.signed, IntKind.bits]
  refine AW_loopK [2, 4, 8, 34, 35] [10, 36, 37, 38, 39, 40, 41, 42, 43, 44, 45, 46, 47, 48, 49, 50, 51, 52, 53, 54, 55, 56, 57] (fun i : Nat => i ≤ c.length) (fun i => [(36, .I i)]) (fun i => [(8, .box 25 [.own 900, .own 901, .own 902]), (900, .arr 3 1 (iRow (obvs (c.take i)))), (901, .arr 3 1 (iRow (revs (c.take i))))]) (fun i => c.length - i) 0 (by omega) ?_ ?_
  · simp (disch := omega) only [go_sem, seval, reduceCtorEq, ↓reduceIte, beq_dec, Int.toNat_natCast, IntKind.signed, IntKind.bits, Int.natCast_zero, List.take_zero, obvs, revs, List.filter_nil, List.map_nil]
  · intro i hi
    have hol := obvs_len c i hi
    have hrl := revs_len c i hi
    rcases Nat.lt_or_ge i c.length with hil | hil
    · have s1 := obvs_take c i hil
      have s2 := revs_take c i hil
      (repeat' (first | refine NextAt.mk (fun hc => ?_) (fun pre n v post hc hkey => ?_) | refine Sni.mk (fun hc => ?_) ?_ | refine Both.mk ?_ ?_ | refine AW_seq ?_ | refine AW_block ?_ | ((first | refine AW_reg ?_ | refine AW_cond ?_ | refine AW_skip ?_ | refine AW_exit ?_ | refine AW_ret ?_ | refine AW_regD (by kernel_rfl) ?_ | refine AW_regX (by kernel_rfl) ?_ | refine CallAtG.t (Eq.refl true) ?_ | refine CallAtG.f (Eq.refl false) ?_); try simp (disch := omega) only [go_sem, seval, reduceCtorEq, ↓reduceIte, beq_dec, Int.toNat_natCast, IntKind.signed, IntKind.bits, List.length_map, getD_map Die.cd, Die.cd, maxLen]) | refine And.intro (fun hc => (?_ : AW _ _ _ _)) (fun hc => (?_ : AW _ _ _ _)) | simp (disch := omega) only [go_sem, seval, reduceCtorEq, ↓reduceIte, beq_dec, Int.toNat_natCast, IntKind.signed, IntKind.bits, List.length_map, getD_map Die.cd, Die.cd, maxLen] | (refine And.intro ?_ ?_; focus (first | (intros; omega) | (intros; simp_all; done))) | refine And.intro (?_ : CallAt _ _ _ _ _ _ _ _) ?_ | refine And.intro (?_ : CallAt _ _ _ _ _ _ _ _ ∧ _) ?_ | refine And.intro (?_ : AW _ _ _ _) ?_ | fail))
      · rw [if_pos (by assumption)] at s1 s2
        refine .mk (i + 1) (by omega) (by omega) ?_
        rw [s1, s2, List.append_nil, ← iRow_app]
        simp (disch := omega) only [go_sem, seval, reduceCtorEq, ↓reduceIte, beq_dec, Int.toNat_natCast, IntKind.signed, IntKind.bits, Int.natCast_add, Int.natCast_one]
      · rw [if_neg (by assumption)] at s1 s2
        refine .mk (i + 1) (by omega) (by omega) ?_
        rw [s1, s2, List.append_nil, ← iRow_app]
        simp (disch := omega) only [go_sem, seval, reduceCtorEq, ↓reduceIte, beq_dec, Int.toNat_natCast, IntKind.signed, IntKind.bits, Int.natCast_add, Int.natCast_one]
      · exfalso; omega
    · have hie : i = c.length := by omega
      subst hie
      rw [List.take_length]
      rw [List.take_length] at hol hrl
      (repeat' (first | refine NextAt.mk (fun hc => ?_) (fun pre n v post hc hkey => ?_) | refine Sni.mk (fun hc => ?_) ?_ | refine Both.mk ?_ ?_ | refine AW_seq ?_ | refine AW_block ?_ | ((first | refine AW_reg ?_ | refine AW_cond ?_ | refine AW_skip ?_ | refine AW_exit ?_ | refine AW_ret ?_ | refine AW_regD (by kernel_rfl) ?_ | refine AW_regX (by kernel_rfl) ?_ | refine CallAtG.t (Eq.refl true) ?_ | refine CallAtG.f (Eq.refl false) ?_); try simp (disch := omega) only [go_sem, seval, reduceCtorEq, ↓reduceIte, beq_dec, Int.toNat_natCast, IntKind.signed, IntKind.bits, List.length_map]) | refine And.intro (fun hc => (?_ : AW _ _ _ _)) (fun hc => (?_ : AW _ _ _ _)) | simp (disch := omega) only [go_sem, seval, reduceCtorEq, ↓reduceIte, beq_dec, Int.toNat_natCast, IntKind.signed, IntKind.bits, List.length_map] | (refine And.intro ?_ ?_; focus (first | (intros; omega) | (intros; simp_all; done))) | refine And.intro (?_ : CallAt _ _ _ _ _ _ _ _) ?_ | refine And.intro (?_ : CallAt _ _ _ _ _ _ _ _ ∧ _) ?_ | refine And.intro (?_ : AW _ _ _ _) ?_ | fail))
      · exfalso; omega
      refine AW_frz [900] ?_
      simp (disch := omega) only [go_sem, seval, reduceCtorEq, ↓reduceIte, beq_dec, Int.toNat_natCast, IntKind.signed, IntKind.bits]
      refine AW_loopK [4, 8, 59, 60] [12, 61, 62, 63, 64, 65, 66, 67, 68, 69, 70, 71, 72, 73, 74, 75, 76] (fun i : Nat => i ≤ g.links.length) (fun i => [(61, .I i)]) (fun i => [(902, .arr 47 3 ((lkIn (obvs c) (g.links.take i)).map Lk.cd))]) (fun i => g.links.length - i) 0 (by omega) ?_ ?_
      · simp (disch := omega) only [go_sem, seval, reduceCtorEq, ↓reduceIte, beq_dec, Int.toNat_natCast, IntKind.signed, IntKind.bits, Int.natCast_zero, List.take_zero, lkIn, List.filter_nil, List.map_nil]
      · intro j hj
        have hll := lkIn_len (obvs c) g.links j hj
        rcases Nat.lt_or_ge j g.links.length with hjl | hjl
        · have s1 := lkIn_take (obvs c) g.links j hjl
          (repeat' (first | refine NextAt.mk (fun hc => ?_) (fun pre n v post hc hkey => ?_) | refine Sni.mk (fun hc => ?_) ?_ | refine Both.mk ?_ ?_ | refine AW_seq ?_ | refine AW_block ?_ | ((first | refine AW_reg ?_ | refine AW_cond ?_ | refine AW_skip ?_ | refine AW_exit ?_ | refine AW_ret ?_ | refine AW_regD (by kernel_rfl) ?_ | refine AW_regX (by kernel_rfl) ?_ | refine CallAtG.t (Eq.refl true) ?_ | refine CallAtG.f (Eq.refl false) ?_ | refine CallAt.mk _ (f48 ..) (by first | (intro h; cases h; done) | (intro _; repeat' (first | exact List.forall_mem_nil _ | trivial | refine List.forall_mem_cons.2 ⟨?_, ?_⟩)) | (intro _; simp [RV.flatP, CD.flatP, List.length_map, getD_map Lk.cd, Lk.cd, maxLen]; done)) ?_ | refine CallAtG.mk _ (fun _ => f48 ..) ?_ | refine CallDS.mk _ (by simp [RV.data]) (fun _ => f48 ..) (by first | (intro h; cases h; done) | (intro _; repeat' (first | exact List.forall_mem_nil _ | trivial | refine List.forall_mem_cons.2 ⟨?_, ?_⟩)) | (intro _; simp [RV.flatP, CD.flatP, List.length_map, getD_map Lk.cd, Lk.cd, maxLen]; done)) ?_); try simp (disch := omega) only [go_sem, seval, reduceCtorEq, ↓reduceIte, beq_dec, Int.toNat_natCast, IntKind.signed, IntKind.bits, List.length_map, getD_map Lk.cd, Lk.cd, maxLen]) | refine And.intro (fun hc => (?_ : AW _ _ _ _)) (fun hc => (?_ : AW _ _ _ _)) | simp (disch := omega) only [go_sem, seval, reduceCtorEq, ↓reduceIte, beq_dec, Int.toNat_natCast, IntKind.signed, IntKind.bits, List.length_map, getD_map Lk.cd, Lk.cd, maxLen] | (refine And.intro ?_ ?_; focus (first | (intros; omega) | (intros; simp_all; done))) | refine And.intro (?_ : CallAt _ _ _ _ _ _ _ _) ?_ | refine And.intro (?_ : CallAt _ _ _ _ _ _ _ _ ∧ _) ?_ | refine And.intro (?_ : AW _ _ _ _) ?_ | fail))
          · rw [if_pos (by assumption)] at s1
            refine .mk (j + 1) (by omega) (by omega) ?_
            rw [s1, List.map_append, List.map_cons, List.map_nil]
            simp (disch := omega) only [go_sem, seval, reduceCtorEq, ↓reduceIte, beq_dec, Int.toNat_natCast, IntKind.signed, IntKind.bits, Int.natCast_add, Int.natCast_one, Lk.cd]
          · rw [if_neg (by assumption)] at s1
            refine .mk (j + 1) (by omega) (by omega) ?_
            rw [s1, List.append_nil]
            simp (disch := omega) only [go_sem, seval, reduceCtorEq, ↓reduceIte, beq_dec, Int.toNat_natCast, IntKind.signed, IntKind.bits, Int.natCast_add, Int.natCast_one]
          · exfalso; omega
        · have hje : j = g.links.length := by omega
          subst hje
          rw [List.take_length]
          (repeat' (first | (with_reducible refine hold29 ?_; try simp (disch := omega) only [go_sem, seval, reduceCtorEq, ↓reduceIte, beq_dec, Int.toNat_natCast, IntKind.signed, IntKind.bits, List.length_map]) | refine NextAt.mk (fun hc => ?_) (fun pre n v post hc hkey => ?_) | refine Sni.mk (fun hc => ?_) ?_ | refine Both.mk ?_ ?_ | refine AW_seq ?_ | refine AW_block ?_ | ((first | refine AW_reg ?_ | refine AW_cond ?_ | refine AW_skip ?_ | refine AW_exit ?_ | refine AW_ret ?_ | refine AW_regD (by kernel_rfl) ?_ | refine AW_regX (by kernel_rfl) ?_ | refine CallAtG.t (Eq.refl true) ?_ | refine CallAtG.f (Eq.refl false) ?_); try simp (disch := omega) only [go_sem, seval, reduceCtorEq, ↓reduceIte, beq_dec, Int.toNat_natCast, IntKind.signed, IntKind.bits, List.length_map]) | refine And.intro (fun hc => (?_ : AW _ _ _ _)) (fun hc => (?_ : AW _ _ _ _)) | simp (disch := omega) only [go_sem, seval, reduceCtorEq, ↓reduceIte, beq_dec, Int.toNat_natCast, IntKind.signed, IntKind.bits, List.length_map] | (refine And.intro ?_ ?_; focus (first | (intros; omega) | (intros; simp_all; done))) | refine And.intro (?_ : CallAt _ _ _ _ _ _ _ _) ?_ | refine And.intro (?_ : CallAt _ _ _ _ _ _ _ _ ∧ _) ?_ | refine And.intro (?_ : AW _ _ _ _) ?_ | fail))
          · exfalso; omega
          refine ⟨AW_frz [901, 902] ?_⟩
          (repeat' (first | refine NextAt.mk (fun hc => ?_) (fun pre n v post hc hkey => ?_) | refine Sni.mk (fun hc => ?_) ?_ | refine Both.mk ?_ ?_ | refine AW_seq ?_ | refine AW_block ?_ | ((first | refine AW_reg ?_ | refine AW_cond ?_ | refine AW_skip ?_ | refine AW_exit ?_ | refine AW_ret ?_ | refine AW_regD (by kernel_rfl) ?_ | refine AW_regX (by kernel_rfl) ?_ | refine CallAtG.t (Eq.refl true) ?_ | refine CallAtG.f (Eq.refl false) ?_); try simp (disch := omega) only [go_sem, seval, reduceCtorEq, ↓reduceIte, beq_dec, Int.toNat_natCast, IntKind.signed, IntKind.bits]) | refine And.intro (fun hc => (?_ : AW _ _ _ _)) (fun hc => (?_ : AW _ _ _ _)) | simp (disch := omega) only [go_sem, seval, reduceCtorEq, ↓reduceIte, beq_dec, Int.toNat_natCast, IntKind.signed, IntKind.bits] | (refine And.intro ?_ ?_; focus (first | (intros; omega) | (intros; simp_all; done))) | refine And.intro (?_ : CallAt _ _ _ _ _ _ _ _) ?_ | refine And.intro (?_ : CallAt _ _ _ _ _ _ _ _ ∧ _) ?_ | refine And.intro (?_ : AW _ _ _ _) ?_ | fail))
          all_goals rfl
end Go.Proofs.Ytlomngideedobaa

