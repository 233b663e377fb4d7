/-
  Lemmas for the proof: no statement of its own.
-/
import Derived.Test.YtggcpnnmmcnogaaWalkE
set_option linter.unusedVariables false
set_option linter.unusedSimpArgs false
-- P p_b.txt
open Go Go.AL Go.RowKit
namespace Go.Proofs.Ytggcpnnmmcnogaa
set_option maxRecDepth 20000
theorem hold16 {Q : Exit → St → Prop} {σ : St} (h : Hold (AW Try.prog c16_10 Q σ)) : AW Try.prog c16_10 Q σ := h.out
def stpN (G : List (List Nat)) (n f : Nat) (set : List Nat) (L : List Nat) (v : Nat) : List Nat := if okN G set v then grwN G n f (set ++ [v]) (v + 1) L else L
def lvN (G : List (List Nat)) (n f : Nat) (set : List Nat) (i : Nat) (L : List Nat) (v : Nat) : List Nat := (List.range' i (v - i)).foldl (stpN G n f set) (if L.length < set.length then set else L)
theorem lvN_zero (G : List (List Nat)) (n f : Nat) (set : List Nat) (i : Nat) (L : List Nat) : lvN G n f set i L i = if L.length < set.length then set else L := by
  unfold lvN; rw [Nat.sub_self]; rfl
theorem lvN_succ (G : List (List Nat)) (n f : Nat) (set : List Nat) (i : Nat) (L : List Nat) (v : Nat) (h : i ≤ v) : lvN G n f set i L (v + 1) = stpN G n f set (lvN G n f set i L v) v := by
  unfold lvN
  rw [show v + 1 - i = (v - i) + 1 by omega, List.range'_1_concat, List.foldl_append, show i + (v - i) = v by omega]; rfl
theorem lvN_end (G : List (List Nat)) (n f : Nat) (set : List Nat) (i : Nat) (L : List Nat) : grwN G n (f + 1) set i L = lvN G n f set i L n := rfl
set_option maxHeartbeats 8000000 in
theorem x16 (G : List (List Nat)) (n : Nat) (hG : G.length = n) (hn : n ≤ 12) (hrow : ∀ v, (G.getD v []).length ≤ 1000) : ∀ f set i L, n - i + 1 ≤ f → i ≤ n → set.length ≤ i →
    FnW Try.prog 16 [.c (NR set), .I (i : Int), .ptr 1000007 0, .ptr 1000002 0, .ptr 1000006 0, .ptr 1000008 0] (obG G n L) [] (obG G n (grwN G n f set i L)) [1000007, 1000002, 1000006, 1000008]
  | 0, set, i, L, h, _, _ => by omega
  | f + 1, set, i, L, hf, hi, hs => by
    have ih := fun v (hv : i ≤ v) (hvn : v < n) L => x16 G n hG hn hrow f (set ++ [v]) (v + 1) L (by omega) (by omega) (by simp; omega)
    rw [lvN_end]
    have h0 := lvN_zero G n f set i L
    refine fn_walkW code16 (by simp) (by rfl) ?_
    by_cases hlt : L.length < set.length
    · rw [if_pos hlt] at h0
      have hk0 : ((L.length : Int) < (set.length : Int)) = True := eq_true (by omega)
      have g17 := x17 set (fun e => by subst e; simp at hlt) (by omega)
      (repeat' (first | refine NextAt.mk (fun hc => ?_) (fun pre n v post hc hkey => ?_) | refine Sni.mk (fun hc => ?_) ?_ | refine Both.mk ?_ ?_ | refine AW_seq ?_ | refine AW_block ?_ | ((first | refine AW_reg ?_ | refine AW_cond ?_ | refine AW_skip ?_ | refine AW_exit ?_ | refine AW_ret ?_ | refine AW_regD (by kernel_rfl) ?_ | refine AW_regX (by kernel_rfl) ?_ | refine CallAtG.t (Eq.refl true) ?_ | refine CallAtG.f (Eq.refl false) ?_ | refine CallAt.mk _ (g17 ..) (by first | (intro h; cases h; done) | (intro _; repeat' (first | exact List.forall_mem_nil _ | trivial | refine List.forall_mem_cons.2 ⟨?_, ?_⟩)) | (intro _; simp [RV.flatP, CD.flatP, List.length_map, hk0]; done)) ?_ | refine CallAtG.mk _ (fun _ => g17 ..) ?_ | refine CallDS.mk _ (by simp [RV.data]) (fun _ => g17 ..) (by first | (intro h; cases h; done) | (intro _; repeat' (first | exact List.forall_mem_nil _ | trivial | refine List.forall_mem_cons.2 ⟨?_, ?_⟩)) | (intro _; simp [RV.flatP, CD.flatP, List.length_map, hk0]; done)) ?_); try simp (disch := omega) only [go_sem, seval, reduceCtorEq, ↓reduceIte, beq_dec, Int.toNat_natCast, IntKind.signed, IntKind.bits, List.length_map, hk0]) | refine And.intro (fun hc => (?_ : AW _ _ _ _)) (fun hc => (?_ : AW _ _ _ _)) | simp (disch := omega) only [go_sem, seval, reduceCtorEq, ↓reduceIte, beq_dec, Int.toNat_natCast, IntKind.signed, IntKind.bits, List.length_map, hk0] | (refine And.intro ?_ ?_; focus (first | (intros; omega) | (intros; simp_all; done))) | refine And.intro (?_ : CallAt _ _ _ _ _ _ _ _) ?_ | refine And.intro (?_ : CallAt _ _ _ _ _ _ _ _ ∧ _) ?_ | refine And.intro (?_ : AW _ _ _ _) ?_ | fail))
      refine AW_loopK [0, 3, 4, 5] [8, 17, 18, 19, 20, 21, 22, 23, 24, 25, 26, 27, 28, 29, 30, 31, 32, 33, 34, 35, 36, 37, 38, 39] (fun v : Nat => i ≤ v ∧ v ≤ n) (fun v => [(8, .ptr 8 0)]) (fun v => [(8, .box 3 [.I (v : Int)]), (1000007, .box 31 [.c (NR (lvN G n f set i L v))]), (1000002, .box 3 [.I (n : Int)]), (1000006, .box 48 [.c (TN G)]), (1000008, .box 50 [vG])]) (fun v => n - v) i ⟨by omega, by omega⟩ ?_ ?_
      · rw [h0]
        simp (disch := omega) only [go_sem, seval, reduceCtorEq, ↓reduceIte, beq_dec, Int.toNat_natCast, IntKind.signed, IntKind.bits]
      · rintro v ⟨hv1, hv2⟩
        rcases Nat.lt_or_ge v n with hvn | hvn
        · have hkk : ((v : Int) < (n : Int)) = True := eq_true (by omega)
          have hsucc := lvN_succ G n f set i L v hv1
          have g18 := x18q G v (by omega) (hrow v) set (by omega)
          have g := ih v hv1 hvn (lvN G n f set i L v)
          simp only [Int.natCast_add, Int.natCast_one] at g
          cases hok : okN G set v with
          | false =>
            have hs2 : lvN G n f set i L (v + 1) = lvN G n f set i L v := by rw [hsucc]; unfold stpN; rw [if_neg (by rw [hok]; simp)]
            rw [hok] at g18
            generalize hV' : lvN G n f set i L (v + 1) = V' at *
            generalize lvN G n f set i L v = V at *
            simp only [Bool.not_false] at g18
            (repeat' (first | refine NextAt.mk (fun hc => ?_) (fun pre n v post hc hkey => ?_) | refine Sni.mk (fun hc => ?_) ?_ | refine Both.mk ?_ ?_ | refine AW_seq ?_ | refine AW_block ?_ | ((first | refine AW_reg ?_ | refine AW_cond ?_ | refine AW_skip ?_ | refine AW_exit ?_ | refine AW_ret ?_ | refine AW_regD (by kernel_rfl) ?_ | refine AW_regX (by kernel_rfl) ?_ | refine CallAtG.t (Eq.refl true) ?_ | refine CallAtG.f (Eq.refl false) ?_ | refine CallAt.mk _ (g18 ..) (by first | (intro h; cases h; done) | (intro _; repeat' (first | exact List.forall_mem_nil _ | trivial | refine List.forall_mem_cons.2 ⟨?_, ?_⟩)) | (intro _; simp [RV.flatP, CD.flatP, hkk]; done)) ?_ | refine CallAtG.mk _ (fun _ => g18 ..) ?_ | refine CallDS.mk _ (by simp [RV.data]) (fun _ => g18 ..) (by first | (intro h; cases h; done) | (intro _; repeat' (first | exact List.forall_mem_nil _ | trivial | refine List.forall_mem_cons.2 ⟨?_, ?_⟩)) | (intro _; simp [RV.flatP, CD.flatP, hkk]; done)) ?_); try simp (disch := omega) only [go_sem, seval, reduceCtorEq, ↓reduceIte, beq_dec, Int.toNat_natCast, IntKind.signed, IntKind.bits, hkk]) | refine And.intro (fun hc => (?_ : AW _ _ _ _)) (fun hc => (?_ : AW _ _ _ _)) | simp (disch := omega) only [go_sem, seval, reduceCtorEq, ↓reduceIte, beq_dec, Int.toNat_natCast, IntKind.signed, IntKind.bits, hkk] | (refine And.intro ?_ ?_; focus (first | (intros; omega) | (intros; simp_all; done))) | refine And.intro (?_ : CallAt _ _ _ _ _ _ _ _) ?_ | refine And.intro (?_ : CallAt _ _ _ _ _ _ _ _ ∧ _) ?_ | refine And.intro (?_ : AW _ _ _ _) ?_ | fail))
            refine .mk (v + 1) ⟨by omega, by omega⟩ (by omega) ?_
            rw [hV', hs2]
            simp (disch := omega) only [go_sem, seval, reduceCtorEq, ↓reduceIte, beq_dec, Int.toNat_natCast, IntKind.signed, IntKind.bits, Int.natCast_add, Int.natCast_one]
          | true =>
            have hs2 : lvN G n f set i L (v + 1) = grwN G n f (set ++ [v]) (v + 1) (lvN G n f set i L v) := by rw [hsucc]; unfold stpN; rw [if_pos hok]
            rw [hok] at g18
            rw [← hs2] at g
            generalize hV' : lvN G n f set i L (v + 1) = V' at *
            generalize lvN G n f set i L v = V at *
            simp only [Bool.not_true] at g18
            (repeat' (first | (with_reducible refine hold16 ?_; try simp (disch := omega) only [go_sem, seval, reduceCtorEq, ↓reduceIte, beq_dec, Int.toNat_natCast, IntKind.signed, IntKind.bits, hkk]) | refine NextAt.mk (fun hc => ?_) (fun pre n v post hc hkey => ?_) | refine Sni.mk (fun hc => ?_) ?_ | refine Both.mk ?_ ?_ | refine AW_seq ?_ | refine AW_block ?_ | ((first | refine AW_reg ?_ | refine AW_cond ?_ | refine AW_skip ?_ | refine AW_exit ?_ | refine AW_ret ?_ | refine AW_regD (by kernel_rfl) ?_ | refine AW_regX (by kernel_rfl) ?_ | refine CallAtG.t (Eq.refl true) ?_ | refine CallAtG.f (Eq.refl false) ?_ | refine CallAt.mk _ (g18 ..) (by first | (intro h; cases h; done) | (intro _; repeat' (first | exact List.forall_mem_nil _ | trivial | refine List.forall_mem_cons.2 ⟨?_, ?_⟩)) | (intro _; simp [RV.flatP, CD.flatP, hkk]; done)) ?_ | refine CallAtG.mk _ (fun _ => g18 ..) ?_ | refine CallDS.mk _ (by simp [RV.data]) (fun _ => g18 ..) (by first | (intro h; cases h; done) | (intro _; repeat' (first | exact List.forall_mem_nil _ | trivial | refine List.forall_mem_cons.2 ⟨?_, ?_⟩)) | (intro _; simp [RV.flatP, CD.flatP, hkk]; done)) ?_); try simp (disch := omega) only [go_sem, seval, reduceCtorEq, ↓reduceIte, beq_dec, Int.toNat_natCast, IntKind.signed, IntKind.bits, hkk]) | refine And.intro (fun hc => (?_ : AW _ _ _ _)) (fun hc => (?_ : AW _ _ _ _)) | simp (disch := omega) only [go_sem, seval, reduceCtorEq, ↓reduceIte, beq_dec, Int.toNat_natCast, IntKind.signed, IntKind.bits, hkk] | (refine And.intro ?_ ?_; focus (first | (intros; omega) | (intros; simp_all; done))) | refine And.intro (?_ : CallAt _ _ _ _ _ _ _ _) ?_ | refine And.intro (?_ : CallAt _ _ _ _ _ _ _ _ ∧ _) ?_ | refine And.intro (?_ : AW _ _ _ _) ?_ | fail))
            refine ⟨AW_cut (in16 G n V' set v) (in16 G n V set v) (r16 G n V V' set v (by omega) (by omega) g) ?_ ?_⟩
            · unfold in16
              simp (disch := omega) only [go_sem, seval, reduceCtorEq, ↓reduceIte, beq_dec, Int.toNat_natCast, IntKind.signed, IntKind.bits]
            · unfold in16
              (repeat' (first | refine NextAt.mk (fun hc => ?_) (fun pre n v post hc hkey => ?_) | refine Sni.mk (fun hc => ?_) ?_ | refine Both.mk ?_ ?_ | refine AW_seq ?_ | refine AW_block ?_ | ((first | refine AW_reg ?_ | refine AW_cond ?_ | refine AW_skip ?_ | refine AW_exit ?_ | refine AW_ret ?_ | refine AW_regD (by kernel_rfl) ?_ | refine AW_regX (by kernel_rfl) ?_ | refine CallAtG.t (Eq.refl true) ?_ | refine CallAtG.f (Eq.refl false) ?_); try simp (disch := omega) only [go_sem, seval, reduceCtorEq, ↓reduceIte, beq_dec, Int.toNat_natCast, IntKind.signed, IntKind.bits]) | refine And.intro (fun hc => (?_ : AW _ _ _ _)) (fun hc => (?_ : AW _ _ _ _)) | simp (disch := omega) only [go_sem, seval, reduceCtorEq, ↓reduceIte, beq_dec, Int.toNat_natCast, IntKind.signed, IntKind.bits] | (refine And.intro ?_ ?_; focus (first | (intros; omega) | (intros; simp_all; done))) | refine And.intro (?_ : CallAt _ _ _ _ _ _ _ _) ?_ | refine And.intro (?_ : CallAt _ _ _ _ _ _ _ _ ∧ _) ?_ | refine And.intro (?_ : AW _ _ _ _) ?_ | fail))
              refine .mk (v + 1) ⟨by omega, by omega⟩ (by omega) ?_
              rw [hV']
              simp (disch := omega) only [go_sem, seval, reduceCtorEq, ↓reduceIte, beq_dec, Int.toNat_natCast, IntKind.signed, IntKind.bits, Int.natCast_add, Int.natCast_one]
        · obtain rfl : v = n := by omega
          have hkk : ((v : Int) < (v : Int)) = False := eq_false (by omega)
          (repeat' (first | refine NextAt.mk (fun hc => ?_) (fun pre n v post hc hkey => ?_) | refine Sni.mk (fun hc => ?_) ?_ | refine Both.mk ?_ ?_ | refine AW_seq ?_ | refine AW_block ?_ | ((first | refine AW_reg ?_ | refine AW_cond ?_ | refine AW_skip ?_ | refine AW_exit ?_ | refine AW_ret ?_ | refine AW_regD (by kernel_rfl) ?_ | refine AW_regX (by kernel_rfl) ?_ | refine CallAtG.t (Eq.refl true) ?_ | refine CallAtG.f (Eq.refl false) ?_); try simp (disch := omega) only [go_sem, seval, reduceCtorEq, ↓reduceIte, beq_dec, Int.toNat_natCast, IntKind.signed, IntKind.bits, hkk]) | refine And.intro (fun hc => (?_ : AW _ _ _ _)) (fun hc => (?_ : AW _ _ _ _)) | simp (disch := omega) only [go_sem, seval, reduceCtorEq, ↓reduceIte, beq_dec, Int.toNat_natCast, IntKind.signed, IntKind.bits, hkk] | (refine And.intro ?_ ?_; focus (first | (intros; omega) | (intros; simp_all; done))) | refine And.intro (?_ : CallAt _ _ _ _ _ _ _ _) ?_ | refine And.intro (?_ : CallAt _ _ _ _ _ _ _ _ ∧ _) ?_ | refine And.intro (?_ : AW _ _ _ _) ?_ | fail))
          all_goals trace_state
    · rw [if_neg hlt] at h0
      have hk0 : ((L.length : Int) < (set.length : Int)) = False := eq_false (by omega)
      (repeat' (first | refine NextAt.mk (fun hc => ?_) (fun pre n v post hc hkey => ?_) | refine Sni.mk (fun hc => ?_) ?_ | refine Both.mk ?_ ?_ | refine AW_seq ?_ | refine AW_block ?_ | ((first | refine AW_reg ?_ | refine AW_cond ?_ | refine AW_skip ?_ | refine AW_exit ?_ | refine AW_ret ?_ | refine AW_regD (by kernel_rfl) ?_ | refine AW_regX (by kernel_rfl) ?_ | refine CallAtG.t (Eq.refl true) ?_ | refine CallAtG.f (Eq.refl false) ?_); try simp (disch := omega) only [go_sem, seval, reduceCtorEq, ↓reduceIte, beq_dec, Int.toNat_natCast, IntKind.signed, IntKind.bits, List.length_map, hk0]) | refine And.intro (fun hc => (?_ : AW _ _ _ _)) (fun hc => (?_ : AW _ _ _ _)) | simp (disch := omega) only [go_sem, seval, reduceCtorEq, ↓reduceIte, beq_dec, Int.toNat_natCast, IntKind.signed, IntKind.bits, List.length_map, hk0] | (refine And.intro ?_ ?_; focus (first | (intros; omega) | (intros; simp_all; done))) | refine And.intro (?_ : CallAt _ _ _ _ _ _ _ _) ?_ | refine And.intro (?_ : CallAt _ _ _ _ _ _ _ _ ∧ _) ?_ | refine And.intro (?_ : AW _ _ _ _) ?_ | fail))
      refine AW_loopK [0, 3, 4, 5] [8, 17, 18, 19, 20, 21, 22, 23, 24, 25, 26, 27, 28, 29, 30, 31, 32, 33, 34, 35, 36, 37, 38, 39] (fun v : Nat => i ≤ v ∧ v ≤ n) (fun v => [(8, .ptr 8 0)]) (fun v => [(8, .box 3 [.I (v : Int)]), (1000007, .box 31 [.c (NR (lvN G n f set i L v))]), (1000002, .box 3 [.I (n : Int)]), (1000006, .box 48 [.c (TN G)]), (1000008, .box 50 [vG])]) (fun v => n - v) i ⟨by omega, by omega⟩ ?_ ?_
      · rw [h0]
        simp (disch := omega) only [go_sem, seval, reduceCtorEq, ↓reduceIte, beq_dec, Int.toNat_natCast, IntKind.signed, IntKind.bits]
      · rintro v ⟨hv1, hv2⟩
        rcases Nat.lt_or_ge v n with hvn | hvn
        · have hkk : ((v : Int) < (n : Int)) = True := eq_true (by omega)
          have hsucc := lvN_succ G n f set i L v hv1
          have g18 := x18q G v (by omega) (hrow v) set (by omega)
          have g := ih v hv1 hvn (lvN G n f set i L v)
          simp only [Int.natCast_add, Int.natCast_one] at g
          cases hok : okN G set v with
          | false =>
            have hs2 : lvN G n f set i L (v + 1) = lvN G n f set i L v := by rw [hsucc]; unfold stpN; rw [if_neg (by rw [hok]; simp)]
            rw [hok] at g18
            generalize hV' : lvN G n f set i L (v + 1) = V' at *
            generalize lvN G n f set i L v = V at *
            simp only [Bool.not_false] at g18
            (repeat' (first | refine NextAt.mk (fun hc => ?_) (fun pre n v post hc hkey => ?_) | refine Sni.mk (fun hc => ?_) ?_ | refine Both.mk ?_ ?_ | refine AW_seq ?_ | refine AW_block ?_ | ((first | refine AW_reg ?_ | refine AW_cond ?_ | refine AW_skip ?_ | refine AW_exit ?_ | refine AW_ret ?_ | refine AW_regD (by kernel_rfl) ?_ | refine AW_regX (by kernel_rfl) ?_ | refine CallAtG.t (Eq.refl true) ?_ | refine CallAtG.f (Eq.refl false) ?_ | refine CallAt.mk _ (g18 ..) (by first | (intro h; cases h; done) | (intro _; repeat' (first | exact List.forall_mem_nil _ | trivial | refine List.forall_mem_cons.2 ⟨?_, ?_⟩)) | (intro _; simp [RV.flatP, CD.flatP, hkk]; done)) ?_ | refine CallAtG.mk _ (fun _ => g18 ..) ?_ | refine CallDS.mk _ (by simp [RV.data]) (fun _ => g18 ..) (by first | (intro h; cases h; done) | (intro _; repeat' (first | exact List.forall_mem_nil _ | trivial | refine List.forall_mem_cons.2 ⟨?_, ?_⟩)) | (intro _; simp [RV.flatP, CD.flatP, hkk]; done)) ?_); try simp (disch := omega) only [go_sem, seval, reduceCtorEq, ↓reduceIte, beq_dec, Int.toNat_natCast, IntKind.signed, IntKind.bits, hkk]) | refine And.intro (fun hc => (?_ : AW _ _ _ _)) (fun hc => (?_ : AW _ _ _ _)) | simp (disch := omega) only [go_sem, seval, reduceCtorEq, ↓reduceIte, beq_dec, Int.toNat_natCast, IntKind.signed, IntKind.bits, hkk] | (refine And.intro ?_ ?_; focus (first | (intros; omega) | (intros; simp_all; done))) | refine And.intro (?_ : CallAt _ _ _ _ _ _ _ _) ?_ | refine And.intro (?_ : CallAt _ _ _ _ _ _ _ _ ∧ _) ?_ | refine And.intro (?_ : AW _ _ _ _) ?_ | fail))
            refine .mk (v + 1) ⟨by omega, by omega⟩ (by omega) ?_
            rw [hV', hs2]
            simp (disch := omega) only [go_sem, seval, reduceCtorEq, ↓reduceIte, beq_dec, Int.toNat_natCast, IntKind.signed, IntKind.bits, Int.natCast_add, Int.natCast_one]
          | true =>
            have hs2 : lvN G n f set i L (v + 1) = grwN G n f (set ++ [v]) (v + 1) (lvN G n f set i L v) := by rw [hsucc]; unfold stpN; rw [if_pos hok]
            rw [hok] at g18
            rw [← hs2] at g
            generalize hV' : lvN G n f set i L (v + 1) = V' at *
            generalize lvN G n f set i L v = V at *
            simp only [Bool.not_true] at g18
            (repeat' (first | (with_reducible refine hold16 ?_; try simp (disch := omega) only [go_sem, seval, reduceCtorEq, ↓reduceIte, beq_dec, Int.toNat_natCast, IntKind.signed, IntKind.bits, hkk]) | refine NextAt.mk (fun hc => ?_) (fun pre n v post hc hkey => ?_) | refine Sni.mk (fun hc => ?_) ?_ | refine Both.mk ?_ ?_ | refine AW_seq ?_ | refine AW_block ?_ | ((first | refine AW_reg ?_ | refine AW_cond ?_ | refine AW_skip ?_ | refine AW_exit ?_ | refine AW_ret ?_ | refine AW_regD (by kernel_rfl) ?_ | refine AW_regX (by kernel_rfl) ?_ | refine CallAtG.t (Eq.refl true) ?_ | refine CallAtG.f (Eq.refl false) ?_ | refine CallAt.mk _ (g18 ..) (by first | (intro h; cases h; done) | (intro _; repeat' (first | exact List.forall_mem_nil _ | trivial | refine List.forall_mem_cons.2 ⟨?_, ?_⟩)) | (intro _; simp [RV.flatP, CD.flatP, hkk]; done)) ?_ | refine CallAtG.mk _ (fun _ => g18 ..) ?_ | refine CallDS.mk _ (by simp [RV.data]) (fun _ => g18 ..) (by first | (intro h; cases h; done) | (intro _; repeat' (first | exact List.forall_mem_nil _ | trivial | refine List.forall_mem_cons.2 ⟨?_, ?_⟩)) | (intro _; simp [RV.flatP, CD.flatP, hkk]; done)) ?_); try simp (disch := omega) only [go_sem, seval, reduceCtorEq, ↓reduceIte, beq_dec, Int.toNat_natCast, IntKind.signed, IntKind.bits, hkk]) | refine And.intro (fun hc => (?_ : AW _ _ _ _)) (fun hc => (?_ : AW _ _ _ _)) | simp (disch := omega) only [go_sem, seval, reduceCtorEq, ↓reduceIte, beq_dec, Int.toNat_natCast, IntKind.signed, IntKind.bits, hkk] | (refine And.intro ?_ ?_; focus (first | (intros; omega) | (intros; simp_all; done))) | refine And.intro (?_ : CallAt _ _ _ _ _ _ _ _) ?_ | refine And.intro (?_ : CallAt _ _ _ _ _ _ _ _ ∧ _) ?_ | refine And.intro (?_ : AW _ _ _ _) ?_ | fail))
            refine ⟨AW_cut (in16 G n V' set v) (in16 G n V set v) (r16 G n V V' set v (by omega) (by omega) g) ?_ ?_⟩
            · unfold in16
              simp (disch := omega) only [go_sem, seval, reduceCtorEq, ↓reduceIte, beq_dec, Int.toNat_natCast, IntKind.signed, IntKind.bits]
            · unfold in16
              (repeat' (first | refine NextAt.mk (fun hc => ?_) (fun pre n v post hc hkey => ?_) | refine Sni.mk (fun hc => ?_) ?_ | refine Both.mk ?_ ?_ | refine AW_seq ?_ | refine AW_block ?_ | ((first | refine AW_reg ?_ | refine AW_cond ?_ | refine AW_skip ?_ | refine AW_exit ?_ | refine AW_ret ?_ | refine AW_regD (by kernel_rfl) ?_ | refine AW_regX (by kernel_rfl) ?_ | refine CallAtG.t (Eq.refl true) ?_ | refine CallAtG.f (Eq.refl false) ?_); try simp (disch := omega) only [go_sem, seval, reduceCtorEq, ↓reduceIte, beq_dec, Int.toNat_natCast, IntKind.signed, IntKind.bits]) | refine And.intro (fun hc => (?_ : AW _ _ _ _)) (fun hc => (?_ : AW _ _ _ _)) | simp (disch := omega) only [go_sem, seval, reduceCtorEq, ↓reduceIte, beq_dec, Int.toNat_natCast, IntKind.signed, IntKind.bits] | (refine And.intro ?_ ?_; focus (first | (intros; omega) | (intros; simp_all; done))) | refine And.intro (?_ : CallAt _ _ _ _ _ _ _ _) ?_ | refine And.intro (?_ : CallAt _ _ _ _ _ _ _ _ ∧ _) ?_ | refine And.intro (?_ : AW _ _ _ _) ?_ | fail))
              refine .mk (v + 1) ⟨by omega, by omega⟩ (by omega) ?_
              rw [hV']
              simp (disch := omega) only [go_sem, seval, reduceCtorEq, ↓reduceIte, beq_dec, Int.toNat_natCast, IntKind.signed, IntKind.bits, Int.natCast_add, Int.natCast_one]
        · obtain rfl : v = n := by omega
          have hkk : ((v : Int) < (v : Int)) = False := eq_false (by omega)
          (repeat' (first | refine NextAt.mk (fun hc => ?_) (fun pre n v post hc hkey => ?_) | refine Sni.mk (fun hc => ?_) ?_ | refine Both.mk ?_ ?_ | refine AW_seq ?_ | refine AW_block ?_ | ((first | refine AW_reg ?_ | refine AW_cond ?_ | refine AW_skip ?_ | refine AW_exit ?_ | refine AW_ret ?_ | refine AW_regD (by kernel_rfl) ?_ | refine AW_regX (by kernel_rfl) ?_ | refine CallAtG.t (Eq.refl true) ?_ | refine CallAtG.f (Eq.refl false) ?_); try simp (disch := omega) only [go_sem, seval, reduceCtorEq, ↓reduceIte, beq_dec, Int.toNat_natCast, IntKind.signed, IntKind.bits, hkk]) | refine And.intro (fun hc => (?_ : AW _ _ _ _)) (fun hc => (?_ : AW _ _ _ _)) | simp (disch := omega) only [go_sem, seval, reduceCtorEq, ↓reduceIte, beq_dec, Int.toNat_natCast, IntKind.signed, IntKind.bits, hkk] | (refine And.intro ?_ ?_; focus (first | (intros; omega) | (intros; simp_all; done))) | refine And.intro (?_ : CallAt _ _ _ _ _ _ _ _) ?_ | refine And.intro (?_ : CallAt _ _ _ _ _ _ _ _ ∧ _) ?_ | refine And.intro (?_ : AW _ _ _ _) ?_ | fail))
          all_goals trace_state
end Go.Proofs.Ytggcpnnmmcnogaa

-- P p_b.txt
open Go Go.AL Go.RowKit
namespace Go.Proofs.Ytggcpnnmmcnogaa
set_option maxRecDepth 20000
theorem hold8_9 {Q : Exit → St → Prop} {σ : St} (h : Hold (AW Try.prog c8_9 Q σ)) : AW Try.prog c8_9 Q σ := h.out
set_option maxHeartbeats 4000000 in
theorem x8 (n : Nat) (hn : n ≤ 12) (p : List (Nat × Nat)) (hpl : p.length ≤ 200) (h1 : ∀ i, i < p.length → (nth p i).1 < (nth p i).2 ∧ (nth p i).2 < n) (h1' : ∀ i, i < p.length → 0 < i → lexP (nth p (i - 1)) (nth p i)) :
    FnR Try.prog 8 [.I (n : Int), .c (PR p)] [.c (NR (grwN (madeN n p) n (n + 1) [] 0 [])), .c (.I 0)] := by
  have g13 := x13 n hn p (by omega) h1 h1'
  have g15 := x15 n hn p hpl h1
  have hrow : ∀ v, ((madeN n p).getD v []).length ≤ 1000 := fun v => by have := madeN_row n p v; omega
  have g0 := x16 (madeN n p) n (madeN_len n p) hn hrow (n + 1) [] 0 [] (by omega) (by omega) (by simp)
  generalize grwN (madeN n p) n (n + 1) [] 0 [] = R at *
  generalize madeN n p = G at *
  have g1 := FnW.low g0
  have r7 : rn 1000007 = 7 := rfl
  have r2 : rn 1000002 = 2 := rfl
  have r6 : rn 1000006 = 6 := rfl
  have r8 : rn 1000008 = 8 := rfl
  simp only [renL, AV.ren, renOb, AO.ren, obG, vG, List.map_cons, List.map_nil, r7, r2, r6, r8] at g1
  have g : FnW Try.prog 16 [.c .nil, .I 0, .ptr 7 0, .ptr 2 0, .ptr 6 0, .ptr 8 0] [(7, .box 31 [.c (.sl 1 [])]), (2, .box 3 [.I (n : Int)]), (6, .box 48 [.c (TN G)]), (8, .box 50 [.fn 16 [.ptr 7 0, .ptr 2 0, .ptr 6 0, .ptr 8 0]])] []
      [(7, .box 31 [.c (NR R)]), (2, .box 3 [.I (n : Int)]), (6, .box 48 [.c (TN G)]), (8, .box 50 [.fn 16 [.ptr 7 0, .ptr 2 0, .ptr 6 0, .ptr 8 0]])] [7, 2, 6, 8] :=
    FnW.nil (pre := []) (post := [.I 0, .ptr 7 0, .ptr 2 0, .ptr 6 0, .ptr 8 0]) (k := 1) g1
  clear g0 g1
  refine fn_walk code8 (by simp) ?_
  (repeat' (first | (with_reducible refine hold8_9 ?_; try simp (disch := omega) only [go_sem, seval, reduceCtorEq, ↓reduceIte, beq_dec, Int.toNat_natCast, IntKind.signed, IntKind.bits]) | refine NextAt.mk (fun hc => ?_) (fun pre n v post hc hkey => ?_) | refine Sni.mk (fun hc => ?_) ?_ | refine Both.mk ?_ ?_ | refine AW_seq ?_ | refine AW_block ?_ | ((first | refine AW_reg ?_ | refine AW_cond ?_ | refine AW_skip ?_ | refine AW_exit ?_ | refine AW_ret ?_ | refine AW_regD (by kernel_rfl) ?_ | refine AW_regX (by kernel_rfl) ?_ | refine CallAtG.t (Eq.refl true) ?_ | refine CallAtG.f (Eq.refl false) ?_ | refine CallAt.mk _ (g13 ..) (by first | (intro h; cases h; done) | (intro _; repeat' (first | exact List.forall_mem_nil _ | trivial | refine List.forall_mem_cons.2 ⟨?_, ?_⟩)) | (intro _; simp [RV.flatP, CD.flatP]; done)) ?_ | refine CallAtG.mk _ (fun _ => g13 ..) ?_ | refine CallDS.mk _ (by simp [RV.data]) (fun _ => g13 ..) (by first | (intro h; cases h; done) | (intro _; repeat' (first | exact List.forall_mem_nil _ | trivial | refine List.forall_mem_cons.2 ⟨?_, ?_⟩)) | (intro _; simp [RV.flatP, CD.flatP]; done)) ?_ | refine CallAt.mk _ (g15 ..) (by first | (intro h; cases h; done) | (intro _; repeat' (first | exact List.forall_mem_nil _ | trivial | refine List.forall_mem_cons.2 ⟨?_, ?_⟩)) | (intro _; simp [RV.flatP, CD.flatP]; done)) ?_ | refine CallAtG.mk _ (fun _ => g15 ..) ?_ | refine CallDS.mk _ (by simp [RV.data]) (fun _ => g15 ..) (by first | (intro h; cases h; done) | (intro _; repeat' (first | exact List.forall_mem_nil _ | trivial | refine List.forall_mem_cons.2 ⟨?_, ?_⟩)) | (intro _; simp [RV.flatP, CD.flatP]; done)) ?_); try simp (disch := omega) only [go_sem, seval, reduceCtorEq, ↓reduceIte, beq_dec, Int.toNat_natCast, IntKind.signed, IntKind.bits]) | refine And.intro (fun hc => (?_ : AW _ _ _ _)) (fun hc => (?_ : AW _ _ _ _)) | simp (disch := omega) only [go_sem, seval, reduceCtorEq, ↓reduceIte, beq_dec, Int.toNat_natCast, IntKind.signed, IntKind.bits] | (refine And.intro ?_ ?_; focus (first | (intros; omega) | (intros; simp_all; done))) | refine And.intro (?_ : CallAt _ _ _ _ _ _ _ _) ?_ | refine And.intro (?_ : CallAt _ _ _ _ _ _ _ _ ∧ _) ?_ | refine And.intro (?_ : AW _ _ _ _) ?_ | fail))
  refine ⟨AW_nilBox 7 0 1 (by rfl) (by rfl) ?_⟩
  simp (disch := omega) only [go_sem, seval, reduceCtorEq, ↓reduceIte, beq_dec, Int.toNat_natCast, IntKind.signed, IntKind.bits]
  (repeat' (first | refine NextAt.mk (fun hc => ?_) (fun pre n v post hc hkey => ?_) | refine Sni.mk (fun hc => ?_) ?_ | refine Both.mk ?_ ?_ | refine AW_seq ?_ | refine AW_block ?_ | ((first | refine AW_reg ?_ | refine AW_cond ?_ | refine AW_skip ?_ | refine AW_exit ?_ | refine AW_ret ?_ | refine AW_regD (by kernel_rfl) ?_ | refine AW_regX (by kernel_rfl) ?_ | refine CallAt.mkW (g ..) (by rfl) (by simp (disch := omega) only [go_sem, seval, reduceCtorEq, ↓reduceIte, beq_dec, Int.toNat_natCast, IntKind.signed, IntKind.bits]) (by rfl) (by rfl) (by first | (intro h; cases h; done) | (intro _; simp [RV.flatP, CD.flatP, flatOb, AO.flatP]; done)) ?_ | refine CallAtG.t (Eq.refl true) ?_ | refine CallAtG.f (Eq.refl false) ?_); try simp (disch := omega) only [go_sem, seval, reduceCtorEq, ↓reduceIte, beq_dec, Int.toNat_natCast, IntKind.signed, IntKind.bits]) | refine And.intro (fun hc => (?_ : AW _ _ _ _)) (fun hc => (?_ : AW _ _ _ _)) | simp (disch := omega) only [go_sem, seval, reduceCtorEq, ↓reduceIte, beq_dec, Int.toNat_natCast, IntKind.signed, IntKind.bits] | (refine And.intro ?_ ?_; focus (first | (intros; omega) | (intros; simp_all; done))) | refine And.intro (?_ : CallAt _ _ _ _ _ _ _ _) ?_ | refine And.intro (?_ : CallAt _ _ _ _ _ _ _ _ ∧ _) ?_ | refine And.intro (?_ : AW _ _ _ _) ?_ | fail))
end Go.Proofs.Ytggcpnnmmcnogaa

