/-
  Lemmas for the proof: no statement of its own.
-/
import Derived.Test.YtcimlelkeppoiaaWalkC
import Derived.Test.YtcimlelkeppoiaaPlainF
set_option linter.unusedVariables false
set_option linter.unusedSimpArgs false
open Go Go.AL Go.RowKit
namespace Go.Proofs.Ytcimlelkeppoiaa
set_option maxRecDepth 20000
def shrink (p : List Int → Bool) : Nat → List Int → List Int
  | 0, l => l
  | i + 1, l => shrink p i (if p (wo l i) = true then wo l i else l)
def findR (P : Int → List (List Int) → Bool) (n : Int) (t : List (List Int)) : List Int := shrink (fun r => obs P n t r (upto n.toNat)) t.length (upto t.length)
def findC (P : Int → List (List Int) → Bool) (n : Int) (t : List (List Int)) : List Int := shrink (fun c => obs P n t (findR P n t) c) n.toNat (upto n.toNat)
def findE (P : Int → List (List Int) → Bool) (n : Int) (t : List (List Int)) : Int := if validT n t = true then (if obs P n t (upto t.length) (upto n.toNat) = true then 0 else 7) else 1
def dOf (e : Int) (l : List Int) : CD := if e = 0 then Row l else .nil
theorem f37 (n : Int) (t : List (List Int)) : FnR Try.prog 7 [.I n, .c (Tab t)] [.c (dOf (findE poss n t) (findR poss n t)), .c (dOf (findE poss n t) (findC poss n t)), .c (.I (findE poss n t))] := by
  refine fn_walk code7 (by simp) ?_
  unfold findE
  have gv := f38 n t
  cases hv : validT n t with
  | false =>
    rw [hv] at gv
    have e1 : ¬ ((1 : Int) = 0) := by omega
    simp only [Bool.false_eq_true, if_false, dOf, if_neg e1]
    (repeat' (first | refine NextAt.mk (fun hc => ?_) (fun pre n v post hc hkey => ?_) | refine Sni.mk (fun hc => ?_) ?_ | refine Both.mk ?_ ?_ | refine AW_seq ?_ | refine AW_block ?_ | ((first | refine AW_reg ?_ | refine AW_cond ?_ | refine AW_skip ?_ | refine AW_exit ?_ | refine AW_ret ?_ | refine AW_regD (by kernel_rfl) ?_ | refine AW_regX (by kernel_rfl) ?_ | refine CallAtG.t (Eq.refl true) ?_ | refine CallAtG.f (Eq.refl false) ?_ | refine CallAt.mk _ (gv ..) (by first | (intro h; cases h; done) | (intro _; repeat' (first | exact List.forall_mem_nil _ | trivial | refine List.forall_mem_cons.2 ⟨?_, ?_⟩)) | (intro _; simp [RV.flatP, CD.flatP]; done)) ?_ | refine CallAtG.mk _ (fun _ => gv ..) ?_ | refine CallDS.mk _ (by simp [RV.data]) (fun _ => gv ..) (by first | (intro h; cases h; done) | (intro _; repeat' (first | exact List.forall_mem_nil _ | trivial | refine List.forall_mem_cons.2 ⟨?_, ?_⟩)) | (intro _; simp [RV.flatP, CD.flatP]; done)) ?_); try simp (disch := omega) only [go_sem, seval, reduceCtorEq, ↓reduceIte, beq_dec, Int.toNat_natCast, IntKind.signed, IntKind.bits]) | refine And.intro (fun hc => (?_ : AW _ _ _ _)) (fun hc => (?_ : AW _ _ _ _)) | simp (disch := omega) only [go_sem, seval, reduceCtorEq, ↓reduceIte, beq_dec, Int.toNat_natCast, IntKind.signed, IntKind.bits] | (refine And.intro ?_ ?_; focus (first | (intros; omega) | (intros; simp_all; done))) | refine And.intro (?_ : CallAt _ _ _ _ _ _ _ _) ?_ | refine And.intro (?_ : CallAt _ _ _ _ _ _ _ _ ∧ _) ?_ | refine And.intro (?_ : AW _ _ _ _) ?_ | fail))
  | true =>
    rw [hv] at gv
    obtain ⟨h1, h2, h3, h4⟩ := validT_of hv
    obtain ⟨m, rfl⟩ : ∃ m : Nat, n = m := ⟨n.toNat, by omega⟩
    have gu1 := f87 t.length (by omega)
    have gu2 := f87 m (by omega)
    simp only [Int.toNat_natCast] at gu1 gu2
    have gis := f30 m t (upto t.length) (upto m)
    have hl1 := upto_len t.length
    have hl2 := upto_len m
    simp only [if_true, Int.toNat_natCast]
    by_cases hp : obs poss m t (upto t.length) (upto m) = true
    case neg =>
      have hpf : obs poss m t (upto t.length) (upto m) = false := by simpa using hp
      rw [hpf] at gis
      have e7 : ¬ ((7 : Int) = 0) := by omega
      simp only [if_neg hp, dOf, if_neg e7]
      (repeat' (first | refine NextAt.mk (fun hc => ?_) (fun pre n v post hc hkey => ?_) | refine Sni.mk (fun hc => ?_) ?_ | refine Both.mk ?_ ?_ | refine AW_seq ?_ | refine AW_block ?_ | ((first | refine AW_reg ?_ | refine AW_cond ?_ | refine AW_skip ?_ | refine AW_exit ?_ | refine AW_ret ?_ | refine AW_regD (by kernel_rfl) ?_ | refine AW_regX (by kernel_rfl) ?_ | refine CallAtG.t (Eq.refl true) ?_ | refine CallAtG.f (Eq.refl false) ?_ | refine CallAt.mk _ (gv ..) (by first | (intro h; cases h; done) | (intro _; repeat' (first | exact List.forall_mem_nil _ | trivial | refine List.forall_mem_cons.2 ⟨?_, ?_⟩)) | (intro _; simp [RV.flatP, CD.flatP]; done)) ?_ | refine CallAtG.mk _ (fun _ => gv ..) ?_ | refine CallDS.mk _ (by simp [RV.data]) (fun _ => gv ..) (by first | (intro h; cases h; done) | (intro _; repeat' (first | exact List.forall_mem_nil _ | trivial | refine List.forall_mem_cons.2 ⟨?_, ?_⟩)) | (intro _; simp [RV.flatP, CD.flatP]; done)) ?_ | refine CallAt.mk _ (gu1 ..) (by first | (intro h; cases h; done) | (intro _; repeat' (first | exact List.forall_mem_nil _ | trivial | refine List.forall_mem_cons.2 ⟨?_, ?_⟩)) | (intro _; simp [RV.flatP, CD.flatP]; done)) ?_ | refine CallAtG.mk _ (fun _ => gu1 ..) ?_ | refine CallDS.mk _ (by simp [RV.data]) (fun _ => gu1 ..) (by first | (intro h; cases h; done) | (intro _; repeat' (first | exact List.forall_mem_nil _ | trivial | refine List.forall_mem_cons.2 ⟨?_, ?_⟩)) | (intro _; simp [RV.flatP, CD.flatP]; done)) ?_ | refine CallAt.mk _ (gu2 ..) (by first | (intro h; cases h; done) | (intro _; repeat' (first | exact List.forall_mem_nil _ | trivial | refine List.forall_mem_cons.2 ⟨?_, ?_⟩)) | (intro _; simp [RV.flatP, CD.flatP]; done)) ?_ | refine CallAtG.mk _ (fun _ => gu2 ..) ?_ | refine CallDS.mk _ (by simp [RV.data]) (fun _ => gu2 ..) (by first | (intro h; cases h; done) | (intro _; repeat' (first | exact List.forall_mem_nil _ | trivial | refine List.forall_mem_cons.2 ⟨?_, ?_⟩)) | (intro _; simp [RV.flatP, CD.flatP]; done)) ?_ | refine CallAt.mk _ (gis ..) (by first | (intro h; cases h; done) | (intro _; repeat' (first | exact List.forall_mem_nil _ | trivial | refine List.forall_mem_cons.2 ⟨?_, ?_⟩)) | (intro _; simp [RV.flatP, CD.flatP]; done)) ?_ | refine CallAtG.mk _ (fun _ => gis ..) ?_ | refine CallDS.mk _ (by simp [RV.data]) (fun _ => gis ..) (by first | (intro h; cases h; done) | (intro _; repeat' (first | exact List.forall_mem_nil _ | trivial | refine List.forall_mem_cons.2 ⟨?_, ?_⟩)) | (intro _; simp [RV.flatP, CD.flatP]; done)) ?_); try simp (disch := omega) only [go_sem, seval, reduceCtorEq, ↓reduceIte, beq_dec, Int.toNat_natCast, IntKind.signed, IntKind.bits]) | refine And.intro (fun hc => (?_ : AW _ _ _ _)) (fun hc => (?_ : AW _ _ _ _)) | simp (disch := omega) only [go_sem, seval, reduceCtorEq, ↓reduceIte, beq_dec, Int.toNat_natCast, IntKind.signed, IntKind.bits] | (refine And.intro ?_ ?_; focus (first | (intros; omega) | (intros; simp_all; done))) | refine And.intro (?_ : CallAt _ _ _ _ _ _ _ _) ?_ | refine And.intro (?_ : CallAt _ _ _ _ _ _ _ _ ∧ _) ?_ | refine And.intro (?_ : AW _ _ _ _) ?_ | fail))
    case pos =>
      rw [hp] at gis
      simp only [if_pos hp, dOf, if_true]
      unfold findR findC
      simp only [Int.toNat_natCast]
      (repeat' (first | refine NextAt.mk (fun hc => ?_) (fun pre n v post hc hkey => ?_) | refine Sni.mk (fun hc => ?_) ?_ | refine Both.mk ?_ ?_ | refine AW_seq ?_ | refine AW_block ?_ | ((first | refine AW_reg ?_ | refine AW_cond ?_ | refine AW_skip ?_ | refine AW_exit ?_ | refine AW_ret ?_ | refine AW_regD (by kernel_rfl) ?_ | refine AW_regX (by kernel_rfl) ?_ | refine CallAtG.t (Eq.refl true) ?_ | refine CallAtG.f (Eq.refl false) ?_ | refine CallAt.mk _ (gv ..) (by first | (intro h; cases h; done) | (intro _; repeat' (first | exact List.forall_mem_nil _ | trivial | refine List.forall_mem_cons.2 ⟨?_, ?_⟩)) | (intro _; simp [RV.flatP, CD.flatP]; done)) ?_ | refine CallAtG.mk _ (fun _ => gv ..) ?_ | refine CallDS.mk _ (by simp [RV.data]) (fun _ => gv ..) (by first | (intro h; cases h; done) | (intro _; repeat' (first | exact List.forall_mem_nil _ | trivial | refine List.forall_mem_cons.2 ⟨?_, ?_⟩)) | (intro _; simp [RV.flatP, CD.flatP]; done)) ?_ | refine CallAt.mk _ (gu1 ..) (by first | (intro h; cases h; done) | (intro _; repeat' (first | exact List.forall_mem_nil _ | trivial | refine List.forall_mem_cons.2 ⟨?_, ?_⟩)) | (intro _; simp [RV.flatP, CD.flatP]; done)) ?_ | refine CallAtG.mk _ (fun _ => gu1 ..) ?_ | refine CallDS.mk _ (by simp [RV.data]) (fun _ => gu1 ..) (by first | (intro h; cases h; done) | (intro _; repeat' (first | exact List.forall_mem_nil _ | trivial | refine List.forall_mem_cons.2 ⟨?_, ?_⟩)) | (intro _; simp [RV.flatP, CD.flatP]; done)) ?_ | refine CallAt.mk _ (gu2 ..) (by first | (intro h; cases h; done) | (intro _; repeat' (first | exact List.forall_mem_nil _ | trivial | refine List.forall_mem_cons.2 ⟨?_, ?_⟩)) | (intro _; simp [RV.flatP, CD.flatP]; done)) ?_ | refine CallAtG.mk _ (fun _ => gu2 ..) ?_ | refine CallDS.mk _ (by simp [RV.data]) (fun _ => gu2 ..) (by first | (intro h; cases h; done) | (intro _; repeat' (first | exact List.forall_mem_nil _ | trivial | refine List.forall_mem_cons.2 ⟨?_, ?_⟩)) | (intro _; simp [RV.flatP, CD.flatP]; done)) ?_ | refine CallAt.mk _ (gis ..) (by first | (intro h; cases h; done) | (intro _; repeat' (first | exact List.forall_mem_nil _ | trivial | refine List.forall_mem_cons.2 ⟨?_, ?_⟩)) | (intro _; simp [RV.flatP, CD.flatP]; done)) ?_ | refine CallAtG.mk _ (fun _ => gis ..) ?_ | refine CallDS.mk _ (by simp [RV.data]) (fun _ => gis ..) (by first | (intro h; cases h; done) | (intro _; repeat' (first | exact List.forall_mem_nil _ | trivial | refine List.forall_mem_cons.2 ⟨?_, ?_⟩)) | (intro _; simp [RV.flatP, CD.flatP]; done)) ?_); try simp (disch := omega) only [go_sem, seval, reduceCtorEq, ↓reduceIte, beq_dec, Int.toNat_natCast, IntKind.signed, IntKind.bits]) | refine And.intro (fun hc => (?_ : AW _ _ _ _)) (fun hc => (?_ : AW _ _ _ _)) | simp (disch := omega) only [go_sem, seval, reduceCtorEq, ↓reduceIte, beq_dec, Int.toNat_natCast, IntKind.signed, IntKind.bits] | (refine And.intro ?_ ?_; focus (first | (intros; omega) | (intros; simp_all; done))) | refine And.intro (?_ : CallAt _ _ _ _ _ _ _ _) ?_ | refine And.intro (?_ : CallAt _ _ _ _ _ _ _ _ ∧ _) ?_ | refine And.intro (?_ : AW _ _ _ _) ?_ | fail))
      refine AW_frz [19, 21] ?_
      simp (disch := omega) only [go_sem, seval, reduceCtorEq, ↓reduceIte, beq_dec, Int.toNat_natCast, IntKind.signed, IntKind.bits]
      refine AW_loopK [0, 1, 8] [7, 9, 10, 31, 32, 33, 34, 35, 36, 37, 38, 39, 40, 41, 42, 43] (fun i : Nat × List Int => i.1 ≤ i.2.length ∧ i.2.length ≤ 16 ∧ shrink (fun r => obs poss m t r (upto m)) i.1 i.2 = shrink (fun r => obs poss m t r (upto m)) t.length (upto t.length)) (fun i => [(9, .I ((i.1 : Int) - 1)), (7, .c (Row i.2))]) (fun _ => []) (fun i => i.1) (t.length, upto t.length) ⟨by simp only; omega, by simp only; omega, rfl⟩ ?_ ?_
      · simp (disch := omega) only [go_sem, seval, reduceCtorEq, ↓reduceIte, beq_dec, Int.toNat_natCast, IntKind.signed, IntKind.bits, hl1]
      · rintro ⟨i, l⟩ ⟨q1, q2, q3⟩
        simp only at q1 q2 q3
        cases i with
        | zero =>
          have e0 : ((0 : Nat) : Int) - 1 = -1 := rfl
          have q3 : l = shrink (fun r => obs poss m t r (upto m)) t.length (upto t.length) := q3
          (repeat' (first | refine NextAt.mk (fun hc => ?_) (fun pre n v post hc hkey => ?_) | refine Sni.mk (fun hc => ?_) ?_ | refine Both.mk ?_ ?_ | refine AW_seq ?_ | refine AW_block ?_ | ((first | refine AW_reg ?_ | refine AW_cond ?_ | refine AW_skip ?_ | refine AW_exit ?_ | refine AW_ret ?_ | refine AW_regD (by kernel_rfl) ?_ | refine AW_regX (by kernel_rfl) ?_ | refine CallAtG.t (Eq.refl true) ?_ | refine CallAtG.f (Eq.refl false) ?_); try simp (disch := omega) only [go_sem, seval, reduceCtorEq, ↓reduceIte, beq_dec, Int.toNat_natCast, IntKind.signed, IntKind.bits, e0, hl2]) | refine And.intro (fun hc => (?_ : AW _ _ _ _)) (fun hc => (?_ : AW _ _ _ _)) | simp (disch := omega) only [go_sem, seval, reduceCtorEq, ↓reduceIte, beq_dec, Int.toNat_natCast, IntKind.signed, IntKind.bits, e0, hl2] | (refine And.intro ?_ ?_; focus (first | (intros; omega) | (intros; simp_all; done))) | refine And.intro (?_ : CallAt _ _ _ _ _ _ _ _) ?_ | refine And.intro (?_ : CallAt _ _ _ _ _ _ _ _ ∧ _) ?_ | refine And.intro (?_ : AW _ _ _ _) ?_ | fail))
          rw [← q3]
          refine AW_loopK [0, 1, 7] [8, 11, 12, 47, 48, 49, 50, 51, 52, 53, 54, 55, 56, 57, 58, 59] (fun i : Nat × List Int => i.1 ≤ i.2.length ∧ i.2.length ≤ 16 ∧ shrink (fun c => obs poss m t l c) i.1 i.2 = shrink (fun c => obs poss m t l c) m (upto m)) (fun i => [(11, .I ((i.1 : Int) - 1)), (8, .c (Row i.2))]) (fun _ => []) (fun i => i.1) (m, upto m) ⟨by simp only; omega, by simp only; omega, rfl⟩ ?_ ?_
          · simp (disch := omega) only [go_sem, seval, reduceCtorEq, ↓reduceIte, beq_dec, Int.toNat_natCast, IntKind.signed, IntKind.bits, hl2]
          · rintro ⟨i, c⟩ ⟨r1, r2, r3⟩
            simp only at r1 r2 r3
            cases i with
            | zero =>
              have r3 : c = shrink (fun c => obs poss m t l c) m (upto m) := r3
              (repeat' (first | refine NextAt.mk (fun hc => ?_) (fun pre n v post hc hkey => ?_) | refine Sni.mk (fun hc => ?_) ?_ | refine Both.mk ?_ ?_ | refine AW_seq ?_ | refine AW_block ?_ | ((first | refine AW_reg ?_ | refine AW_cond ?_ | refine AW_skip ?_ | refine AW_exit ?_ | refine AW_ret ?_ | refine AW_regD (by kernel_rfl) ?_ | refine AW_regX (by kernel_rfl) ?_ | refine CallAtG.t (Eq.refl true) ?_ | refine CallAtG.f (Eq.refl false) ?_); try simp (disch := omega) only [go_sem, seval, reduceCtorEq, ↓reduceIte, beq_dec, Int.toNat_natCast, IntKind.signed, IntKind.bits, e0]) | refine And.intro (fun hc => (?_ : AW _ _ _ _)) (fun hc => (?_ : AW _ _ _ _)) | simp (disch := omega) only [go_sem, seval, reduceCtorEq, ↓reduceIte, beq_dec, Int.toNat_natCast, IntKind.signed, IntKind.bits, e0] | (refine And.intro ?_ ?_; focus (first | (intros; omega) | (intros; simp_all; done))) | refine And.intro (?_ : CallAt _ _ _ _ _ _ _ _) ?_ | refine And.intro (?_ : CallAt _ _ _ _ _ _ _ _ ∧ _) ?_ | refine And.intro (?_ : AW _ _ _ _) ?_ | fail))
              have ef : findR poss m t = l := by unfold findR; rw [Int.toNat_natCast]; exact q3.symm
              rw [ef, ← r3]
            | succ i =>
              have gwo := f85 c i (by omega) (by omega)
              have hwl := wo_len (l := c) (i := i) (by omega)
              simp only [shrink] at r3
              have ei : ((i + 1 : Nat) : Int) - 1 = i := by omega
              (repeat' (first | refine NextAt.mk (fun hc => ?_) (fun pre n v post hc hkey => ?_) | refine Sni.mk (fun hc => ?_) ?_ | refine Both.mk ?_ ?_ | refine AW_seq ?_ | refine AW_block ?_ | ((first | refine AW_reg ?_ | refine AW_cond ?_ | refine AW_skip ?_ | refine AW_exit ?_ | refine AW_ret ?_ | refine AW_regD (by kernel_rfl) ?_ | refine AW_regX (by kernel_rfl) ?_ | refine CallAtG.t (Eq.refl true) ?_ | refine CallAtG.f (Eq.refl false) ?_ | refine CallAt.mk _ (gwo ..) (by first | (intro h; cases h; done) | (intro _; repeat' (first | exact List.forall_mem_nil _ | trivial | refine List.forall_mem_cons.2 ⟨?_, ?_⟩)) | (intro _; simp [RV.flatP, CD.flatP, ei]; done)) ?_ | refine CallAtG.mk _ (fun _ => gwo ..) ?_ | refine CallDS.mk _ (by simp [RV.data]) (fun _ => gwo ..) (by first | (intro h; cases h; done) | (intro _; repeat' (first | exact List.forall_mem_nil _ | trivial | refine List.forall_mem_cons.2 ⟨?_, ?_⟩)) | (intro _; simp [RV.flatP, CD.flatP, ei]; done)) ?_ | refine CallAt.mk _ (f30 ..) (by first | (intro h; cases h; done) | (intro _; repeat' (first | exact List.forall_mem_nil _ | trivial | refine List.forall_mem_cons.2 ⟨?_, ?_⟩)) | (intro _; simp [RV.flatP, CD.flatP, ei]; done)) ?_ | refine CallAtG.mk _ (fun _ => f30 ..) ?_ | refine CallDS.mk _ (by simp [RV.data]) (fun _ => f30 ..) (by first | (intro h; cases h; done) | (intro _; repeat' (first | exact List.forall_mem_nil _ | trivial | refine List.forall_mem_cons.2 ⟨?_, ?_⟩)) | (intro _; simp [RV.flatP, CD.flatP, ei]; done)) ?_); try simp (disch := omega) only [go_sem, seval, reduceCtorEq, ↓reduceIte, beq_dec, Int.toNat_natCast, IntKind.signed, IntKind.bits, ei]) | refine And.intro (fun hc => (?_ : AW _ _ _ _)) (fun hc => (?_ : AW _ _ _ _)) | simp (disch := omega) only [go_sem, seval, reduceCtorEq, ↓reduceIte, beq_dec, Int.toNat_natCast, IntKind.signed, IntKind.bits, ei] | (refine And.intro ?_ ?_; focus (first | (intros; omega) | (intros; simp_all; done))) | refine And.intro (?_ : CallAt _ _ _ _ _ _ _ _) ?_ | refine And.intro (?_ : CallAt _ _ _ _ _ _ _ _ ∧ _) ?_ | refine And.intro (?_ : AW _ _ _ _) ?_ | fail))
              · skip
                rw [if_pos hc] at r3
                refine .frz [53] (i, wo c i) ⟨by simp only; omega, by simp only; omega, r3⟩ (by simp) ?_
                simp (disch := omega) only [go_sem, seval, reduceCtorEq, ↓reduceIte, beq_dec, Int.toNat_natCast, IntKind.signed, IntKind.bits]
              · skip
                rw [if_neg (by simp [hc])] at r3
                refine .mk (i, c) ⟨by simp only; omega, by simp only; omega, r3⟩ (by simp) ?_
                simp (disch := omega) only [go_sem, seval, reduceCtorEq, ↓reduceIte, beq_dec, Int.toNat_natCast, IntKind.signed, IntKind.bits]
              · omega
        | succ i =>
          have gwo := f85 l i (by omega) (by omega)
          have hwl := wo_len (l := l) (i := i) (by omega)
          simp only [shrink] at q3
          have ei : ((i + 1 : Nat) : Int) - 1 = i := by omega
          (repeat' (first | refine NextAt.mk (fun hc => ?_) (fun pre n v post hc hkey => ?_) | refine Sni.mk (fun hc => ?_) ?_ | refine Both.mk ?_ ?_ | refine AW_seq ?_ | refine AW_block ?_ | ((first | refine AW_reg ?_ | refine AW_cond ?_ | refine AW_skip ?_ | refine AW_exit ?_ | refine AW_ret ?_ | refine AW_regD (by kernel_rfl) ?_ | refine AW_regX (by kernel_rfl) ?_ | refine CallAtG.t (Eq.refl true) ?_ | refine CallAtG.f (Eq.refl false) ?_ | refine CallAt.mk _ (gwo ..) (by first | (intro h; cases h; done) | (intro _; repeat' (first | exact List.forall_mem_nil _ | trivial | refine List.forall_mem_cons.2 ⟨?_, ?_⟩)) | (intro _; simp [RV.flatP, CD.flatP, ei]; done)) ?_ | refine CallAtG.mk _ (fun _ => gwo ..) ?_ | refine CallDS.mk _ (by simp [RV.data]) (fun _ => gwo ..) (by first | (intro h; cases h; done) | (intro _; repeat' (first | exact List.forall_mem_nil _ | trivial | refine List.forall_mem_cons.2 ⟨?_, ?_⟩)) | (intro _; simp [RV.flatP, CD.flatP, ei]; done)) ?_ | refine CallAt.mk _ (f30 ..) (by first | (intro h; cases h; done) | (intro _; repeat' (first | exact List.forall_mem_nil _ | trivial | refine List.forall_mem_cons.2 ⟨?_, ?_⟩)) | (intro _; simp [RV.flatP, CD.flatP, ei]; done)) ?_ | refine CallAtG.mk _ (fun _ => f30 ..) ?_ | refine CallDS.mk _ (by simp [RV.data]) (fun _ => f30 ..) (by first | (intro h; cases h; done) | (intro _; repeat' (first | exact List.forall_mem_nil _ | trivial | refine List.forall_mem_cons.2 ⟨?_, ?_⟩)) | (intro _; simp [RV.flatP, CD.flatP, ei]; done)) ?_); try simp (disch := omega) only [go_sem, seval, reduceCtorEq, ↓reduceIte, beq_dec, Int.toNat_natCast, IntKind.signed, IntKind.bits, ei]) | refine And.intro (fun hc => (?_ : AW _ _ _ _)) (fun hc => (?_ : AW _ _ _ _)) | simp (disch := omega) only [go_sem, seval, reduceCtorEq, ↓reduceIte, beq_dec, Int.toNat_natCast, IntKind.signed, IntKind.bits, ei] | (refine And.intro ?_ ?_; focus (first | (intros; omega) | (intros; simp_all; done))) | refine And.intro (?_ : CallAt _ _ _ _ _ _ _ _) ?_ | refine And.intro (?_ : CallAt _ _ _ _ _ _ _ _ ∧ _) ?_ | refine And.intro (?_ : AW _ _ _ _) ?_ | fail))
          · skip
            rw [if_pos hc] at q3
            refine .frz [37] (i, wo l i) ⟨by simp only; omega, by simp only; omega, q3⟩ (by simp) ?_
            simp (disch := omega) only [go_sem, seval, reduceCtorEq, ↓reduceIte, beq_dec, Int.toNat_natCast, IntKind.signed, IntKind.bits]
          · skip
            rw [if_neg (by simp [hc])] at q3
            refine .mk (i, l) ⟨by simp only; omega, by simp only; omega, q3⟩ (by simp) ?_
            simp (disch := omega) only [go_sem, seval, reduceCtorEq, ↓reduceIte, beq_dec, Int.toNat_natCast, IntKind.signed, IntKind.bits]
          · omega
end Go.Proofs.Ytcimlelkeppoiaa

open Go Go.AL Go.RowKit
namespace Go.Proofs.Ytcimlelkeppoiaa
set_option maxRecDepth 20000
def cntI (t : List (List Int)) (c : Nat) : Nat → Nat
  | 0 => 0
  | k + 1 => cntI t c k + (if nth (nth t k) 0 = c then 1 else 0) + (if nth (nth t k) 1 = c then 1 else 0)
def cntL (t : List (List Int)) (m k : Nat) : List Int := (List.range m).map fun (c : Nat) => ((cntI t c k : Nat) : Int)
theorem cntL_len (t : List (List Int)) (m k : Nat) : (cntL t m k).length = m := by simp [cntL]
theorem cntL_nth (t : List (List Int)) (m k c : Nat) (h : c < m) : nth (cntL t m k) c = cntI t c k := by
  rw [nth_eq _ c (by rw [cntL_len]; exact h)]; simp [cntL]
theorem cntI_le (t : List (List Int)) (c : Nat) : ∀ k, cntI t c k ≤ 2 * k
  | 0 => Nat.le_refl _
  | k + 1 => by
    have := cntI_le t c k
    simp only [cntI]
    split <;> split <;> omega
theorem cntL_le (t : List (List Int)) (m k c : Nat) : 0 ≤ nth (cntL t m k) c ∧ nth (cntL t m k) c ≤ 2 * k := by
  by_cases h : c < m
  · rw [cntL_nth t m k c h]
    have := cntI_le t c k
    omega
  · have : nth (cntL t m k) c = 0 := by
      unfold nth
      rw [List.getD_eq_getElem?_getD, List.getElem?_eq_none (by rw [cntL_len]; omega)]; rfl
    omega
theorem cntL_zero (t : List (List Int)) (m : Nat) : AO.arr 3 1 (List.replicate m [CD.I 0]) = AO.arr 3 1 ((cntL t m 0).map fun x => [CD.I x]) := by
  congr 1
  refine List.ext_getElem (by simp [cntL_len]) fun i h1 h2 => ?_
  simp [cntL, cntI]
theorem iset (l : List Int) (i : Nat) (v : Int) : (l.map fun x => [CD.I x]).set i [CD.I v] = (l.set i v).map fun x => [CD.I x] := by rw [List.map_set]
theorem nth_set (l : List Int) (i j : Nat) (v : Int) (hi : i < l.length) : nth (l.set i v) j = if j = i then v else nth l j := by
  by_cases hj : j < l.length
  · rw [nth_eq _ j (by simpa using hj), List.getElem_set, nth_eq l j hj]
    by_cases e : i = j
    · subst e; simp
    · rw [if_neg e, if_neg (Ne.symm e)]
  · unfold nth
    rw [List.getD_eq_getElem?_getD, List.getElem?_eq_none (by simp; omega), List.getD_eq_getElem?_getD, List.getElem?_eq_none (by omega), if_neg (by omega)]
theorem cntL_step (t : List (List Int)) (m k a b : Nat) (ha : a < m) (hb : b < m) (h0 : nth (nth t k) 0 = a) (h1 : nth (nth t k) 1 = b) :
    ((cntL t m k).set a (nth (cntL t m k) a + 1)).set b (nth ((cntL t m k).set a (nth (cntL t m k) a + 1)) b + 1) = cntL t m (k + 1) := by
  have hl := cntL_len t m k
  refine nth_ext (by simp [cntL_len]) fun j hj => ?_
  have hj' : j < m := by simpa [cntL_len] using hj
  rw [nth_set _ _ _ _ (by simp; omega), nth_set _ _ _ _ (by omega), nth_set _ _ _ _ (by omega), cntL_nth t m (k + 1) j hj', cntL_nth t m k j hj', cntL_nth t m k a ha, cntL_nth t m k b hb]
  simp only [cntI, h0, h1]
  by_cases e1 : j = a <;> by_cases e2 : j = b
  · subst e1; subst e2; simp
  · subst e1
    have : ¬ ((b : Int) = j) := by omega
    simp [e2, this]
  · subst e2
    have : ¬ ((a : Int) = j) := by omega
    simp [e1, this]
  · have q1 : ¬ ((a : Int) = j) := by omega
    have q2 : ¬ ((b : Int) = j) := by omega
    simp [e1, e2, q1, q2]
def kindV (P : Int → List (List Int) → Bool) (n : Int) (t : List (List Int)) : Int :=
  if validT n t = true ∧ minB (obs P n t) (upto t.length) (upto n.toNat) = true then
    (if (∃ i, i < t.length ∧ (nth t i).length ≠ 2) ∨ (∃ c : Nat, c < n.toNat ∧ cntI t c t.length ≠ 2) then 2 else 1)
  else 0
theorem f89 (x : Int) : FnR Try.prog 26 [.I x] [.c (.B (decide (x ≠ 2)))] := by
  refine fn_walk code26 (by simp) ?_
  (repeat' (first | refine NextAt.mk (fun hc => ?_) (fun pre n v post hc hkey => ?_) | refine Sni.mk (fun hc => ?_) ?_ | refine Both.mk ?_ ?_ | refine AW_seq ?_ | refine AW_block ?_ | ((first | refine AW_reg ?_ | refine AW_cond ?_ | refine AW_skip ?_ | refine AW_exit ?_ | refine AW_ret ?_ | refine AW_regD (by kernel_rfl) ?_ | refine AW_regX (by kernel_rfl) ?_ | refine CallAtG.t (Eq.refl true) ?_ | refine CallAtG.f (Eq.refl false) ?_); try simp (disch := omega) only [go_sem, seval, reduceCtorEq, ↓reduceIte, beq_dec, Int.toNat_natCast, IntKind.signed, IntKind.bits]) | refine And.intro (fun hc => (?_ : AW _ _ _ _)) (fun hc => (?_ : AW _ _ _ _)) | simp (disch := omega) only [go_sem, seval, reduceCtorEq, ↓reduceIte, beq_dec, Int.toNat_natCast, IntKind.signed, IntKind.bits] | (refine And.intro ?_ ?_; focus (first | (intros; omega) | (intros; simp_all; done))) | refine And.intro (?_ : CallAt _ _ _ _ _ _ _ _) ?_ | refine And.intro (?_ : CallAt _ _ _ _ _ _ _ _ ∧ _) ?_ | refine And.intro (?_ : AW _ _ _ _) ?_ | fail))
  simp
def idx2 (l : List Int) : Int := match l.findIdx? (fun x => decide (x ≠ 2)) with | some i => (i : Int) | none => -1
theorem f121 (l : List Int) : FnR Try.prog 40 [.c (Row l), .fn 26 []] [.c (.I (idx2 l))] := by
  refine FnR_len (pre := []) (post := [.fn 26 []]) (fnCode_callB code40) fun hl => ?_
  simp only [List.length_map, maxLen] at hl
  refine fn_walk code40 (by simp) ?_
  (repeat' (first | refine NextAt.mk (fun hc => ?_) (fun pre n v post hc hkey => ?_) | refine Sni.mk (fun hc => ?_) ?_ | refine Both.mk ?_ ?_ | refine AW_seq ?_ | refine AW_block ?_ | ((first | refine AW_reg ?_ | refine AW_cond ?_ | refine AW_skip ?_ | refine AW_exit ?_ | refine AW_ret ?_ | refine AW_regD (by kernel_rfl) ?_ | refine AW_regX (by kernel_rfl) ?_ | refine CallAtG.t (Eq.refl true) ?_ | refine CallAtG.f (Eq.refl false) ?_); try simp (disch := omega) only [go_sem, seval, reduceCtorEq, ↓reduceIte, beq_dec, Int.toNat_natCast, IntKind.signed, IntKind.bits]) | refine And.intro (fun hc => (?_ : AW _ _ _ _)) (fun hc => (?_ : AW _ _ _ _)) | simp (disch := omega) only [go_sem, seval, reduceCtorEq, ↓reduceIte, beq_dec, Int.toNat_natCast, IntKind.signed, IntKind.bits] | (refine And.intro ?_ ?_; focus (first | (intros; omega) | (intros; simp_all; done))) | refine And.intro (?_ : CallAt _ _ _ _ _ _ _ _) ?_ | refine And.intro (?_ : CallAt _ _ _ _ _ _ _ _ ∧ _) ?_ | refine And.intro (?_ : AW _ _ _ _) ?_ | fail))
  refine AW_loopK [0, 1, 7] [4, 5, 8, 9, 10, 11, 12, 13, 14, 15, 16, 17, 18] (fun i : Nat => i ≤ l.length ∧ ∀ j, j < i → nth l j = 2) (fun i => [(8, .I i)]) (fun _ => []) (fun i => l.length - i) 0 ⟨by omega, by omega⟩ ?_ ?_
  · simp (disch := omega) only [go_sem, seval, reduceCtorEq, ↓reduceIte, beq_dec, Int.toNat_natCast, IntKind.signed, IntKind.bits, Int.natCast_zero]
  · rintro i ⟨hi, hb⟩
    (repeat' (first | refine NextAt.mk (fun hc => ?_) (fun pre n v post hc hkey => ?_) | refine Sni.mk (fun hc => ?_) ?_ | refine Both.mk ?_ ?_ | refine AW_seq ?_ | refine AW_block ?_ | ((first | refine AW_reg ?_ | refine AW_cond ?_ | refine AW_skip ?_ | refine AW_exit ?_ | refine AW_ret ?_ | refine AW_regD (by kernel_rfl) ?_ | refine AW_regX (by kernel_rfl) ?_ | refine CallAtG.t (Eq.refl true) ?_ | refine CallAtG.f (Eq.refl false) ?_ | refine CallAt.mk _ (f89 ..) (by first | (intro h; cases h; done) | (intro _; repeat' (first | exact List.forall_mem_nil _ | trivial | refine List.forall_mem_cons.2 ⟨?_, ?_⟩)) | (intro _; simp [RV.flatP, CD.flatP, getD_map (fun x : Int => [CD.I x])]; done)) ?_ | refine CallAtG.mk _ (fun _ => f89 ..) ?_ | refine CallDS.mk _ (by simp [RV.data]) (fun _ => f89 ..) (by first | (intro h; cases h; done) | (intro _; repeat' (first | exact List.forall_mem_nil _ | trivial | refine List.forall_mem_cons.2 ⟨?_, ?_⟩)) | (intro _; simp [RV.flatP, CD.flatP, getD_map (fun x : Int => [CD.I x])]; done)) ?_); try simp (disch := omega) only [go_sem, seval, reduceCtorEq, ↓reduceIte, beq_dec, Int.toNat_natCast, IntKind.signed, IntKind.bits, getD_map (fun x : Int => [CD.I x])]) | refine And.intro (fun hc => (?_ : AW _ _ _ _)) (fun hc => (?_ : AW _ _ _ _)) | simp (disch := omega) only [go_sem, seval, reduceCtorEq, ↓reduceIte, beq_dec, Int.toNat_natCast, IntKind.signed, IntKind.bits, getD_map (fun x : Int => [CD.I x])] | (refine And.intro ?_ ?_; focus (first | (intros; omega) | (intros; simp_all; done))) | refine And.intro (?_ : CallAt _ _ _ _ _ _ _ _) ?_ | refine And.intro (?_ : CallAt _ _ _ _ _ _ _ _ ∧ _) ?_ | refine And.intro (?_ : AW _ _ _ _) ?_ | fail))
    · have e : l.findIdx? (fun x => decide (x ≠ 2)) = some i := by
        rw [List.findIdx?_eq_some_iff_getElem]
        refine ⟨by omega, by rw [← nth_eq l i (by omega)]; simpa using hc, fun j hj => ?_⟩
        rw [← nth_eq l j (by omega)]
        simpa using hb j hj
      unfold idx2; rw [e]
    · refine .mk (i + 1) ⟨by omega, step_lt hb (by simpa using hc)⟩ (by omega) ?_
      simp (disch := omega) only [go_sem, seval, reduceCtorEq, ↓reduceIte, beq_dec, Int.toNat_natCast, IntKind.signed, IntKind.bits, Int.natCast_add, Int.natCast_one]
    · have e : l.findIdx? (fun x => decide (x ≠ 2)) = none := by
        rw [List.findIdx?_eq_none_iff]
        intro x hx
        obtain ⟨j, hj, rfl⟩ := List.getElem_of_mem hx
        rw [← nth_eq l j hj]
        simpa using hb j (by omega)
      unfold idx2; rw [e]
theorem idx2_nonneg (l : List Int) : 0 ≤ idx2 l ↔ ∃ c, c < l.length ∧ nth l c ≠ 2 := by
  unfold idx2
  cases e : l.findIdx? (fun x => decide (x ≠ 2)) with
  | none =>
    rw [List.findIdx?_eq_none_iff] at e
    simp only
    constructor
    · intro h; omega
    · rintro ⟨c, hc, h⟩
      have := e _ (nth_mem l c hc)
      simp at this
      exact absurd this h
  | some i =>
    rw [List.findIdx?_eq_some_iff_getElem] at e
    obtain ⟨h1, h2, _⟩ := e
    simp only
    constructor
    · intro _
      refine ⟨i, h1, ?_⟩
      rw [nth_eq l i h1]; simpa using h2
    · intro _; omega
theorem f88 (l : List Int) : FnR Try.prog 25 [.c (Row l), .fn 26 []] [.c (.B (decide (0 ≤ idx2 l)))] := by
  refine fn_walk code25 (by simp) ?_
  (repeat' (first | refine NextAt.mk (fun hc => ?_) (fun pre n v post hc hkey => ?_) | refine Sni.mk (fun hc => ?_) ?_ | refine Both.mk ?_ ?_ | refine AW_seq ?_ | refine AW_block ?_ | ((first | refine AW_reg ?_ | refine AW_cond ?_ | refine AW_skip ?_ | refine AW_exit ?_ | refine AW_ret ?_ | refine AW_regD (by kernel_rfl) ?_ | refine AW_regX (by kernel_rfl) ?_ | refine CallAtG.t (Eq.refl true) ?_ | refine CallAtG.f (Eq.refl false) ?_ | refine CallAt.mk _ (f121 ..) (by first | (intro h; cases h; done) | (intro _; repeat' (first | exact List.forall_mem_nil _ | trivial | refine List.forall_mem_cons.2 ⟨?_, ?_⟩)) | (intro _; simp [RV.flatP, CD.flatP]; done)) ?_ | refine CallAtG.mk _ (fun _ => f121 ..) ?_ | refine CallDS.mk _ (by simp [RV.data]) (fun _ => f121 ..) (by first | (intro h; cases h; done) | (intro _; repeat' (first | exact List.forall_mem_nil _ | trivial | refine List.forall_mem_cons.2 ⟨?_, ?_⟩)) | (intro _; simp [RV.flatP, CD.flatP]; done)) ?_); try simp (disch := omega) only [go_sem, seval, reduceCtorEq, ↓reduceIte, beq_dec, Int.toNat_natCast, IntKind.signed, IntKind.bits]) | refine And.intro (fun hc => (?_ : AW _ _ _ _)) (fun hc => (?_ : AW _ _ _ _)) | simp (disch := omega) only [go_sem, seval, reduceCtorEq, ↓reduceIte, beq_dec, Int.toNat_natCast, IntKind.signed, IntKind.bits] | (refine And.intro ?_ ?_; focus (first | (intros; omega) | (intros; simp_all; done))) | refine And.intro (?_ : CallAt _ _ _ _ _ _ _ _) ?_ | refine And.intro (?_ : CallAt _ _ _ _ _ _ _ _ ∧ _) ?_ | refine And.intro (?_ : AW _ _ _ _) ?_ | fail))
theorem f39 (n : Int) (t : List (List Int)) : FnR Try.prog 14 [.I n, .c (Tab t)] [.c (.I (kindV poss n t))] := by
  refine fn_walk code14 (by simp) ?_
  have gv := f38 n t
  cases hv : validT n t with
  | false =>
    rw [hv] at gv
    have e : kindV poss n t = 0 := by unfold kindV; rw [hv]; rfl
    rw [e]
    (repeat' (first | refine NextAt.mk (fun hc => ?_) (fun pre n v post hc hkey => ?_) | refine Sni.mk (fun hc => ?_) ?_ | refine Both.mk ?_ ?_ | refine AW_seq ?_ | refine AW_block ?_ | ((first | refine AW_reg ?_ | refine AW_cond ?_ | refine AW_skip ?_ | refine AW_exit ?_ | refine AW_ret ?_ | refine AW_regD (by kernel_rfl) ?_ | refine AW_regX (by kernel_rfl) ?_ | refine CallAtG.t (Eq.refl true) ?_ | refine CallAtG.f (Eq.refl false) ?_ | refine CallAt.mk _ (gv ..) (by first | (intro h; cases h; done) | (intro _; repeat' (first | exact List.forall_mem_nil _ | trivial | refine List.forall_mem_cons.2 ⟨?_, ?_⟩)) | (intro _; simp [RV.flatP, CD.flatP]; done)) ?_ | refine CallAtG.mk _ (fun _ => gv ..) ?_ | refine CallDS.mk _ (by simp [RV.data]) (fun _ => gv ..) (by first | (intro h; cases h; done) | (intro _; repeat' (first | exact List.forall_mem_nil _ | trivial | refine List.forall_mem_cons.2 ⟨?_, ?_⟩)) | (intro _; simp [RV.flatP, CD.flatP]; done)) ?_); try simp (disch := omega) only [go_sem, seval, reduceCtorEq, ↓reduceIte, beq_dec, Int.toNat_natCast, IntKind.signed, IntKind.bits]) | refine And.intro (fun hc => (?_ : AW _ _ _ _)) (fun hc => (?_ : AW _ _ _ _)) | simp (disch := omega) only [go_sem, seval, reduceCtorEq, ↓reduceIte, beq_dec, Int.toNat_natCast, IntKind.signed, IntKind.bits] | (refine And.intro ?_ ?_; focus (first | (intros; omega) | (intros; simp_all; done))) | refine And.intro (?_ : CallAt _ _ _ _ _ _ _ _) ?_ | refine And.intro (?_ : CallAt _ _ _ _ _ _ _ _ ∧ _) ?_ | refine And.intro (?_ : AW _ _ _ _) ?_ | fail))
  | true =>
    rw [hv] at gv
    obtain ⟨h1, h2, h3, h4⟩ := validT_of hv
    obtain ⟨m, rfl⟩ : ∃ m : Nat, n = m := ⟨n.toNat, by omega⟩
    have gu1 := f87 t.length (by omega)
    have gu2 := f87 m (by omega)
    simp only [Int.toNat_natCast] at gu1 gu2
    have hl1 := upto_len t.length
    have hl2 := upto_len m
    have gmin := f32 m t (upto t.length) (upto m) (by omega) (by omega)
    by_cases hp : minB (obs poss m t) (upto t.length) (upto m) = true
    case neg =>
      have hpf : minB (obs poss m t) (upto t.length) (upto m) = false := by simpa using hp
      rw [hpf] at gmin
      have e : kindV poss m t = 0 := by unfold kindV; rw [hv, Int.toNat_natCast, hpf]; rfl
      rw [e]
      (repeat' (first | refine NextAt.mk (fun hc => ?_) (fun pre n v post hc hkey => ?_) | refine Sni.mk (fun hc => ?_) ?_ | refine Both.mk ?_ ?_ | refine AW_seq ?_ | refine AW_block ?_ | ((first | refine AW_reg ?_ | refine AW_cond ?_ | refine AW_skip ?_ | refine AW_exit ?_ | refine AW_ret ?_ | refine AW_regD (by kernel_rfl) ?_ | refine AW_regX (by kernel_rfl) ?_ | refine CallAtG.t (Eq.refl true) ?_ | refine CallAtG.f (Eq.refl false) ?_ | refine CallAt.mk _ (gv ..) (by first | (intro h; cases h; done) | (intro _; repeat' (first | exact List.forall_mem_nil _ | trivial | refine List.forall_mem_cons.2 ⟨?_, ?_⟩)) | (intro _; simp [RV.flatP, CD.flatP]; done)) ?_ | refine CallAtG.mk _ (fun _ => gv ..) ?_ | refine CallDS.mk _ (by simp [RV.data]) (fun _ => gv ..) (by first | (intro h; cases h; done) | (intro _; repeat' (first | exact List.forall_mem_nil _ | trivial | refine List.forall_mem_cons.2 ⟨?_, ?_⟩)) | (intro _; simp [RV.flatP, CD.flatP]; done)) ?_ | refine CallAt.mk _ (gu1 ..) (by first | (intro h; cases h; done) | (intro _; repeat' (first | exact List.forall_mem_nil _ | trivial | refine List.forall_mem_cons.2 ⟨?_, ?_⟩)) | (intro _; simp [RV.flatP, CD.flatP]; done)) ?_ | refine CallAtG.mk _ (fun _ => gu1 ..) ?_ | refine CallDS.mk _ (by simp [RV.data]) (fun _ => gu1 ..) (by first | (intro h; cases h; done) | (intro _; repeat' (first | exact List.forall_mem_nil _ | trivial | refine List.forall_mem_cons.2 ⟨?_, ?_⟩)) | (intro _; simp [RV.flatP, CD.flatP]; done)) ?_ | refine CallAt.mk _ (gu2 ..) (by first | (intro h; cases h; done) | (intro _; repeat' (first | exact List.forall_mem_nil _ | trivial | refine List.forall_mem_cons.2 ⟨?_, ?_⟩)) | (intro _; simp [RV.flatP, CD.flatP]; done)) ?_ | refine CallAtG.mk _ (fun _ => gu2 ..) ?_ | refine CallDS.mk _ (by simp [RV.data]) (fun _ => gu2 ..) (by first | (intro h; cases h; done) | (intro _; repeat' (first | exact List.forall_mem_nil _ | trivial | refine List.forall_mem_cons.2 ⟨?_, ?_⟩)) | (intro _; simp [RV.flatP, CD.flatP]; done)) ?_ | refine CallAt.mk _ (gmin ..) (by first | (intro h; cases h; done) | (intro _; repeat' (first | exact List.forall_mem_nil _ | trivial | refine List.forall_mem_cons.2 ⟨?_, ?_⟩)) | (intro _; simp [RV.flatP, CD.flatP]; done)) ?_ | refine CallAtG.mk _ (fun _ => gmin ..) ?_ | refine CallDS.mk _ (by simp [RV.data]) (fun _ => gmin ..) (by first | (intro h; cases h; done) | (intro _; repeat' (first | exact List.forall_mem_nil _ | trivial | refine List.forall_mem_cons.2 ⟨?_, ?_⟩)) | (intro _; simp [RV.flatP, CD.flatP]; done)) ?_); try simp (disch := omega) only [go_sem, seval, reduceCtorEq, ↓reduceIte, beq_dec, Int.toNat_natCast, IntKind.signed, IntKind.bits]) | refine And.intro (fun hc => (?_ : AW _ _ _ _)) (fun hc => (?_ : AW _ _ _ _)) | simp (disch := omega) only [go_sem, seval, reduceCtorEq, ↓reduceIte, beq_dec, Int.toNat_natCast, IntKind.signed, IntKind.bits] | (refine And.intro ?_ ?_; focus (first | (intros; omega) | (intros; simp_all; done))) | refine And.intro (?_ : CallAt _ _ _ _ _ _ _ _) ?_ | refine And.intro (?_ : CallAt _ _ _ _ _ _ _ _ ∧ _) ?_ | refine And.intro (?_ : AW _ _ _ _) ?_ | fail))
    case pos =>
      rw [hp] at gmin
      have ek : kindV poss m t = if (∃ i, i < t.length ∧ (nth t i).length ≠ 2) ∨ (∃ c : Nat, c < m ∧ cntI t c t.length ≠ 2) then 2 else 1 := by
        unfold kindV; rw [hv, Int.toNat_natCast, hp]; rfl
      rw [ek]
      (repeat' (first | refine NextAt.mk (fun hc => ?_) (fun pre n v post hc hkey => ?_) | refine Sni.mk (fun hc => ?_) ?_ | refine Both.mk ?_ ?_ | refine AW_seq ?_ | refine AW_block ?_ | ((first | refine AW_reg ?_ | refine AW_cond ?_ | refine AW_skip ?_ | refine AW_exit ?_ | refine AW_ret ?_ | refine AW_regD (by kernel_rfl) ?_ | refine AW_regX (by kernel_rfl) ?_ | refine CallAtG.t (Eq.refl true) ?_ | refine CallAtG.f (Eq.refl false) ?_ | refine CallAt.mk _ (gv ..) (by first | (intro h; cases h; done) | (intro _; repeat' (first | exact List.forall_mem_nil _ | trivial | refine List.forall_mem_cons.2 ⟨?_, ?_⟩)) | (intro _; simp [RV.flatP, CD.flatP, maxLen]; done)) ?_ | refine CallAtG.mk _ (fun _ => gv ..) ?_ | refine CallDS.mk _ (by simp [RV.data]) (fun _ => gv ..) (by first | (intro h; cases h; done) | (intro _; repeat' (first | exact List.forall_mem_nil _ | trivial | refine List.forall_mem_cons.2 ⟨?_, ?_⟩)) | (intro _; simp [RV.flatP, CD.flatP, maxLen]; done)) ?_ | refine CallAt.mk _ (gu1 ..) (by first | (intro h; cases h; done) | (intro _; repeat' (first | exact List.forall_mem_nil _ | trivial | refine List.forall_mem_cons.2 ⟨?_, ?_⟩)) | (intro _; simp [RV.flatP, CD.flatP, maxLen]; done)) ?_ | refine CallAtG.mk _ (fun _ => gu1 ..) ?_ | refine CallDS.mk _ (by simp [RV.data]) (fun _ => gu1 ..) (by first | (intro h; cases h; done) | (intro _; repeat' (first | exact List.forall_mem_nil _ | trivial | refine List.forall_mem_cons.2 ⟨?_, ?_⟩)) | (intro _; simp [RV.flatP, CD.flatP, maxLen]; done)) ?_ | refine CallAt.mk _ (gu2 ..) (by first | (intro h; cases h; done) | (intro _; repeat' (first | exact List.forall_mem_nil _ | trivial | refine List.forall_mem_cons.2 ⟨?_, ?_⟩)) | (intro _; simp [RV.flatP, CD.flatP, maxLen]; done)) ?_ | refine CallAtG.mk _ (fun _ => gu2 ..) ?_ | refine CallDS.mk _ (by simp [RV.data]) (fun _ => gu2 ..) (by first | (intro h; cases h; done) | (intro _; repeat' (first | exact List.forall_mem_nil _ | trivial | refine List.forall_mem_cons.2 ⟨?_, ?_⟩)) | (intro _; simp [RV.flatP, CD.flatP, maxLen]; done)) ?_ | refine CallAt.mk _ (gmin ..) (by first | (intro h; cases h; done) | (intro _; repeat' (first | exact List.forall_mem_nil _ | trivial | refine List.forall_mem_cons.2 ⟨?_, ?_⟩)) | (intro _; simp [RV.flatP, CD.flatP, maxLen]; done)) ?_ | refine CallAtG.mk _ (fun _ => gmin ..) ?_ | refine CallDS.mk _ (by simp [RV.data]) (fun _ => gmin ..) (by first | (intro h; cases h; done) | (intro _; repeat' (first | exact List.forall_mem_nil _ | trivial | refine List.forall_mem_cons.2 ⟨?_, ?_⟩)) | (intro _; simp [RV.flatP, CD.flatP, maxLen]; done)) ?_); try simp (disch := omega) only [go_sem, seval, reduceCtorEq, ↓reduceIte, beq_dec, Int.toNat_natCast, IntKind.signed, IntKind.bits, maxLen]) | refine And.intro (fun hc => (?_ : AW _ _ _ _)) (fun hc => (?_ : AW _ _ _ _)) | simp (disch := omega) only [go_sem, seval, reduceCtorEq, ↓reduceIte, beq_dec, Int.toNat_natCast, IntKind.signed, IntKind.bits, maxLen] | (refine And.intro ?_ ?_; focus (first | (intros; omega) | (intros; simp_all; done))) | refine And.intro (?_ : CallAt _ _ _ _ _ _ _ _) ?_ | refine And.intro (?_ : CallAt _ _ _ _ _ _ _ _ ∧ _) ?_ | refine And.intro (?_ : AW _ _ _ _) ?_ | fail))
      refine AW_loopK [5, 25, 26] [4, 7, 27, 28, 29, 30, 31, 32, 33, 34, 35, 36, 37, 38, 39, 40, 41, 42, 43, 44, 45, 46, 47, 48, 49, 50] (fun k : Nat => k ≤ t.length ∧ ∀ j, j < k → (nth t j).length = 2) (fun k => [(27, .I k)]) (fun k => [(24, .arr 3 1 ((cntL t m k).map fun x => [CD.I x]))]) (fun k => t.length - k) 0 ⟨by omega, by omega⟩ ?_ ?_
      · simp (disch := omega) only [go_sem, seval, reduceCtorEq, ↓reduceIte, beq_dec, Int.toNat_natCast, IntKind.signed, IntKind.bits, Int.natCast_zero]
        exact cntL_zero t m
      · rintro k ⟨hk, hb⟩
        have hin : k < t.length → (nth t k).length = 2 → 0 ≤ nth (nth t k) 0 ∧ nth (nth t k) 0 < m ∧ 0 ≤ nth (nth t k) 1 ∧ nth (nth t k) 1 < m := fun hk hl => by
          have q := asc_rng (h4 k hk)
          have q0 := q 0 (by omega)
          have q1 := q 1 (by omega)
          omega
        have hcl := cntL_len t m k
        have hcb := cntL_le t m k
        (repeat' (first | refine NextAt.mk (fun hc => ?_) (fun pre n v post hc hkey => ?_) | refine Sni.mk (fun hc => ?_) ?_ | refine Both.mk ?_ ?_ | refine AW_seq ?_ | refine AW_block ?_ | ((first | refine AW_reg ?_ | refine AW_cond ?_ | refine AW_skip ?_ | refine AW_exit ?_ | refine AW_ret ?_ | refine AW_regD (by kernel_rfl) ?_ | refine AW_regX (by kernel_rfl) ?_ | refine CallAtG.t (Eq.refl true) ?_ | refine CallAtG.f (Eq.refl false) ?_); try simp (disch := omega) only [go_sem, seval, reduceCtorEq, ↓reduceIte, beq_dec, Int.toNat_natCast, IntKind.signed, IntKind.bits, getD_map (fun r : List Int => [Row r]), getD_map (fun x : Int => [CD.I x]), iset]) | refine And.intro (fun hc => (?_ : AW _ _ _ _)) (fun hc => (?_ : AW _ _ _ _)) | simp (disch := omega) only [go_sem, seval, reduceCtorEq, ↓reduceIte, beq_dec, Int.toNat_natCast, IntKind.signed, IntKind.bits, getD_map (fun r : List Int => [Row r]), getD_map (fun x : Int => [CD.I x]), iset] | (refine And.intro ?_ ?_; focus (first | (intros; omega) | (intros; simp_all; done))) | refine And.intro (?_ : CallAt _ _ _ _ _ _ _ _) ?_ | refine And.intro (?_ : CallAt _ _ _ _ _ _ _ _ ∧ _) ?_ | refine And.intro (?_ : AW _ _ _ _) ?_ | fail))
        · rw [if_pos (.inl ⟨k, by omega, by omega⟩)]
        · obtain ⟨q1, q2, q3, q4⟩ := hin (by omega) (by omega)
          obtain ⟨a, ha⟩ : ∃ a : Nat, nth (nth t k) 0 = a := ⟨(nth (nth t k) 0).toNat, by omega⟩
          obtain ⟨b, hb1⟩ : ∃ b : Nat, nth (nth t k) 1 = b := ⟨(nth (nth t k) 1).toNat, by omega⟩
          have hca := hcb a
          have hcb' := hcb b
          have hstep := cntL_step t m k a b (by omega) (by omega) ha hb1
          have hq : 0 ≤ nth ((cntL t m k).set a (nth (cntL t m k) a + 1)) b ∧ nth ((cntL t m k).set a (nth (cntL t m k) a + 1)) b ≤ 2 * k + 1 := by
            rw [nth_set _ _ _ _ (by omega)]
            split <;> omega
          have hsl : ((cntL t m k).set a (nth (cntL t m k) a + 1)).length = m := by simp [cntL_len]
          simp only [ha, Int.toNat_natCast]
          refine ⟨by omega, by omega, by omega, ?_⟩
          (repeat' (first | refine NextAt.mk (fun hc => ?_) (fun pre n v post hc hkey => ?_) | refine Sni.mk (fun hc => ?_) ?_ | refine Both.mk ?_ ?_ | refine AW_seq ?_ | refine AW_block ?_ | ((first | refine AW_reg ?_ | refine AW_cond ?_ | refine AW_skip ?_ | refine AW_exit ?_ | refine AW_ret ?_ | refine AW_regD (by kernel_rfl) ?_ | refine AW_regX (by kernel_rfl) ?_ | refine CallAtG.t (Eq.refl true) ?_ | refine CallAtG.f (Eq.refl false) ?_); try simp (disch := omega) only [go_sem, seval, reduceCtorEq, ↓reduceIte, beq_dec, Int.toNat_natCast, IntKind.signed, IntKind.bits, getD_map (fun r : List Int => [Row r]), getD_map (fun x : Int => [CD.I x]), iset, ha, hb1]) | refine And.intro (fun hc => (?_ : AW _ _ _ _)) (fun hc => (?_ : AW _ _ _ _)) | simp (disch := omega) only [go_sem, seval, reduceCtorEq, ↓reduceIte, beq_dec, Int.toNat_natCast, IntKind.signed, IntKind.bits, getD_map (fun r : List Int => [Row r]), getD_map (fun x : Int => [CD.I x]), iset, ha, hb1] | (refine And.intro ?_ ?_; focus (first | (intros; omega) | (intros; simp_all; done))) | refine And.intro (?_ : CallAt _ _ _ _ _ _ _ _) ?_ | refine And.intro (?_ : CallAt _ _ _ _ _ _ _ _ ∧ _) ?_ | refine And.intro (?_ : AW _ _ _ _) ?_ | fail))
          refine .mk (k + 1) ⟨by omega, step_lt hb (by omega)⟩ (by omega) ?_
          simp (disch := omega) only [go_sem, seval, reduceCtorEq, ↓reduceIte, beq_dec, Int.toNat_natCast, IntKind.signed, IntKind.bits, Int.natCast_add, Int.natCast_one, hstep]
        · have hk' : k = t.length := by omega
          subst hk'
          have e2 := idx2_nonneg (cntL t m t.length)
          have hnl : ¬ ∃ i, i < t.length ∧ (nth t i).length ≠ 2 := by rintro ⟨i, hi, h⟩; exact h (hb i hi)
          (repeat' (first | refine NextAt.mk (fun hc => ?_) (fun pre n v post hc hkey => ?_) | refine Sni.mk (fun hc => ?_) ?_ | refine Both.mk ?_ ?_ | refine AW_seq ?_ | refine AW_block ?_ | ((first | refine AW_reg ?_ | refine AW_cond ?_ | refine AW_skip ?_ | refine AW_exit ?_ | refine AW_ret ?_ | refine AW_regD (by kernel_rfl) ?_ | refine AW_regX (by kernel_rfl) ?_ | refine CallAtG.t (Eq.refl true) ?_ | refine CallAtG.f (Eq.refl false) ?_ | refine CallAt.mk _ (f88 ..) (by first | (intro h; cases h; done) | (intro _; repeat' (first | exact List.forall_mem_nil _ | trivial | refine List.forall_mem_cons.2 ⟨?_, ?_⟩)) | (intro _; simp [RV.flatP, CD.flatP]; done)) ?_ | refine CallAtG.mk _ (fun _ => f88 ..) ?_ | refine CallDS.mk _ (by simp [RV.data]) (fun _ => f88 ..) (by first | (intro h; cases h; done) | (intro _; repeat' (first | exact List.forall_mem_nil _ | trivial | refine List.forall_mem_cons.2 ⟨?_, ?_⟩)) | (intro _; simp [RV.flatP, CD.flatP]; done)) ?_); try simp (disch := omega) only [go_sem, seval, reduceCtorEq, ↓reduceIte, beq_dec, Int.toNat_natCast, IntKind.signed, IntKind.bits]) | refine And.intro (fun hc => (?_ : AW _ _ _ _)) (fun hc => (?_ : AW _ _ _ _)) | simp (disch := omega) only [go_sem, seval, reduceCtorEq, ↓reduceIte, beq_dec, Int.toNat_natCast, IntKind.signed, IntKind.bits] | (refine And.intro ?_ ?_; focus (first | (intros; omega) | (intros; simp_all; done))) | refine And.intro (?_ : CallAt _ _ _ _ _ _ _ _) ?_ | refine And.intro (?_ : CallAt _ _ _ _ _ _ _ _ ∧ _) ?_ | refine And.intro (?_ : AW _ _ _ _) ?_ | fail))
          · rw [if_pos]
            obtain ⟨c, h1, h2⟩ := e2.1 (by assumption)
            refine .inr ⟨c, by omega, ?_⟩
            rw [cntL_nth t m t.length c (by omega)] at h2
            omega
          · rw [if_neg]
            rintro (h | ⟨c, h1, h2⟩)
            · exact hnl h
            · have := e2.2 ⟨c, by omega, by rw [cntL_nth t m t.length c h1]; omega⟩
              omega
end Go.Proofs.Ytcimlelkeppoiaa

open Go Go.AL Go.RowKit
namespace Go.Proofs.Ytcimlelkeppoiaa
set_option maxRecDepth 20000
end Go.Proofs.Ytcimlelkeppoiaa

open Go Go.AL Go.RowKit
namespace Go.Proofs.Ytcimlelkeppoiaa
set_option maxRecDepth 20000
end Go.Proofs.Ytcimlelkeppoiaa

open Go Go.AL Go.RowKit
namespace Go.Proofs.Ytcimlelkeppoiaa
set_option maxRecDepth 20000
theorem wo_erase (l : List Int) (i : Nat) : wo l i = l.eraseIdx i := (List.eraseIdx_eq_take_drop_succ l i).symm
theorem wo_nth {l : List Int} {i j : Nat} (hi : i < l.length) (hj : j < l.length - 1) : nth (wo l i) j = if j < i then nth l j else nth l (j + 1) := by
  have h : j < (l.eraseIdx i).length := by rw [← wo_erase, wo_len hi]; omega
  rw [wo_erase, nth_eq _ j h, List.getElem_eraseIdx h]
  split
  · rw [nth_eq l j (by omega)]
  · rw [nth_eq l (j + 1) (by omega)]
theorem wo_mem {l : List Int} (h : l.Nodup) {i : Nat} (hi : i < l.length) {x : Int} : x ∈ wo l i ↔ x ∈ l ∧ x ≠ nth l i := by
  rw [wo_erase, List.mem_eraseIdx_iff_getElem]
  constructor
  · rintro ⟨j, hj, hne, rfl⟩
    refine ⟨List.getElem_mem _, fun e => hne ?_⟩
    rw [← nth_eq l j hj] at e
    exact nth_inj h hj hi e
  · rintro ⟨hx, hne⟩
    obtain ⟨j, hj, rfl⟩ := List.getElem_of_mem hx
    exact ⟨j, hj, fun e => hne (by subst e; rw [nth_eq l j hj]), rfl⟩
theorem asc_sub {l l' : List Int} {lo hi : Int} (h : asc l lo hi = true) (hs : l'.Sublist l) : asc l' lo hi = true := asc_of (List.Pairwise.sublist hs (asc_pw h)) fun x hx => asc_mem h (hs.subset hx)
theorem asc_wo {l : List Int} {lo hi : Int} (h : asc l lo hi = true) (i : Nat) : asc (wo l i) lo hi = true := asc_sub h (by rw [wo_erase]; exact List.eraseIdx_sublist l i)
theorem shrink_min {p : List Int → Bool} {lo hi : Int} (hm : ∀ a b, asc a lo hi = true → asc b lo hi = true → (∀ x ∈ a, x ∈ b) → p a = true → p b = true) : ∀ (i : Nat) (l : List Int), asc l lo hi = true → i ≤ l.length → p l = true → (∀ j, i ≤ j → j < l.length → p (wo l j) = false) →
    asc (shrink p i l) lo hi = true ∧ (∀ x ∈ shrink p i l, x ∈ l) ∧ p (shrink p i l) = true ∧ ∀ j, j < (shrink p i l).length → p (wo (shrink p i l) j) = false
  | 0, l, ha, _, hp, hj => ⟨ha, fun _ h => h, hp, fun j h => hj j (by omega) h⟩
  | i + 1, l, ha, hi, hp, hj => by
    have hnd := pw_nodup (asc_pw ha)
    simp only [shrink]
    by_cases h : p (wo l i) = true
    · rw [if_pos h]
      have hwl := wo_len (l := l) (i := i) (by omega)
      have hwa := asc_wo ha i
      obtain ⟨q1, q2, q3, q4⟩ := shrink_min hm i (wo l i) hwa (by omega) h (fun j h1 h2 => by
        cases hw : p (wo (wo l i) j) with
        | false => rfl
        | true =>
          have := hm _ (wo l (j + 1)) (asc_wo hwa j) (asc_wo ha (j + 1)) (fun x hx => by
            rw [wo_mem (pw_nodup (asc_pw hwa)) h2, wo_mem hnd (by omega), wo_nth (by omega) (by omega), if_neg (by omega)] at hx
            exact (wo_mem hnd (by omega)).2 ⟨hx.1.1, hx.2⟩) hw
          rw [hj (j + 1) (by omega) (by omega)] at this; cases this)
      exact ⟨q1, fun x hx => ((wo_mem hnd (by omega)).1 (q2 x hx)).1, q3, q4⟩
    · rw [if_neg h]
      refine shrink_min hm i l ha (by omega) hp fun j h1 h2 => ?_
      by_cases e : j = i
      · subst e; simpa using h
      · exact hj j (by omega) h2
theorem find_min {n : Int} {t : List (List Int)} (hv : validT n t = true) (ho : obs possR n t (upto t.length) (upto n.toNat) = true) :
    part n t (findR possR n t) (findC possR n t) = true ∧ ¬ PO t (findR possR n t) (findC possR n t) ∧ (∀ i, i < (findR possR n t).length → PO t (wo (findR possR n t) i) (findC possR n t)) ∧ (∀ j, j < (findC possR n t).length → PO t (findR possR n t) (wo (findC possR n t) j)) := by
  obtain ⟨pa1, pa2⟩ := part_all hv
  obtain ⟨r1, r2, r3, r4⟩ := shrink_min (p := fun r => obs possR n t r (upto n.toNat)) (lo := 0) (hi := (t.length : Int) - 1) (fun a b ha hb hab h => by
    have h := (obs_iff hv _ _).1 h
    exact (obs_iff hv _ _).2 ⟨part_mk hb pa2, fun hp => h.2 (hp.mono hab fun _ h => h)⟩) t.length (upto t.length) pa1 (by rw [upto_len]; exact Nat.le_refl _) ho (fun j h1 h2 => by rw [upto_len] at h2; omega)
  have eR : findR possR n t = shrink (fun r => obs possR n t r (upto n.toNat)) t.length (upto t.length) := rfl
  rw [← eR] at r1 r2 r3 r4
  obtain ⟨c1, c2, c3, c4⟩ := shrink_min (p := fun c => obs possR n t (findR possR n t) c) (lo := 0) (hi := n - 1) (fun a b ha hb hab h => by
    have h := (obs_iff hv _ _).1 h
    exact (obs_iff hv _ _).2 ⟨part_mk r1 hb, fun hp => h.2 (hp.mono (fun _ h => h) hab)⟩) n.toNat (upto n.toNat) pa2 (by rw [upto_len]; exact Nat.le_refl _) r3 (fun j h1 h2 => by rw [upto_len] at h2; omega)
  have eC : findC possR n t = shrink (fun c => obs possR n t (findR possR n t) c) n.toNat (upto n.toNat) := rfl
  rw [← eC] at c1 c2 c3 c4
  have hO := (obs_iff hv _ _).1 c3
  refine ⟨hO.1, hO.2, fun i hi => ?_, fun j hj => ?_⟩
  · refine Classical.byContradiction fun hn => ?_
    have h1 := obs_cols ((obs_iff hv _ _).2 ⟨part_mk (asc_wo r1 i) c1, hn⟩)
    rw [r4 i hi] at h1; cases h1
  · refine Classical.byContradiction fun hn => ?_
    have h1 := (obs_iff hv _ _).2 ⟨part_mk r1 (asc_wo c1 j), hn⟩
    rw [c4 j hj] at h1; cases h1
end Go.Proofs.Ytcimlelkeppoiaa

open Go Go.AL Go.RowKit
namespace Go.Proofs.Ytcimlelkeppoiaa
set_option maxRecDepth 20000
theorem aw1 : findE poss 4 five = 0 := by decide +kernel
theorem aw2 : findR poss 4 five = [0, 1, 3] := by decide +kernel
theorem aw3 : findC poss 4 five = [0, 1, 2] := by decide +kernel
theorem aw4 : kindV poss 3 [[0, 1], [1, 2], [0, 2]] = 1 := by decide +kernel
theorem f24 : FnR Try.prog 4 [] [.c (.B true)] := by
  have g37 := f37 4 five
  rw [aw1, aw2, aw3] at g37
  simp only [dOf, if_true] at g37
  have g39 := f39 3 [[0, 1], [1, 2], [0, 2]]
  rw [aw4] at g39
  refine fn_walk code4 (by simp) ?_
  have g43a := f43 [0, 1, 3] [0, 1, 3]
  have g43b := f43 [0, 1, 2] [0, 1, 2]
  simp only [decide_true] at g43a g43b
  have g80 := f80.freeze
  simp only [RV.froze, Row, Tab, List.map_cons, List.map_nil] at g37 g39 g43a g43b g80
  (repeat' (first | refine NextAt.mk (fun hc => ?_) (fun pre n v post hc hkey => ?_) | refine Sni.mk (fun hc => ?_) ?_ | refine Both.mk ?_ ?_ | refine AW_seq ?_ | refine AW_block ?_ | ((first | refine AW_reg ?_ | refine AW_cond ?_ | refine AW_skip ?_ | refine AW_exit ?_ | refine AW_ret ?_ | refine AW_regD (by kernel_rfl) ?_ | refine AW_regX (by kernel_rfl) ?_ | refine CallAtG.t (Eq.refl true) ?_ | refine CallAtG.f (Eq.refl false) ?_ | refine CallAt.mk _ (g80 ..) (by first | (intro h; cases h; done) | (intro _; repeat' (first | exact List.forall_mem_nil _ | trivial | refine List.forall_mem_cons.2 ⟨?_, ?_⟩)) | (intro _; simp [RV.flatP, CD.flatP]; done)) ?_ | refine CallAtG.mk _ (fun _ => g80 ..) ?_ | refine CallDS.mk _ (by simp [RV.data]) (fun _ => g80 ..) (by first | (intro h; cases h; done) | (intro _; repeat' (first | exact List.forall_mem_nil _ | trivial | refine List.forall_mem_cons.2 ⟨?_, ?_⟩)) | (intro _; simp [RV.flatP, CD.flatP]; done)) ?_ | refine CallAt.mk _ (g37 ..) (by first | (intro h; cases h; done) | (intro _; repeat' (first | exact List.forall_mem_nil _ | trivial | refine List.forall_mem_cons.2 ⟨?_, ?_⟩)) | (intro _; simp [RV.flatP, CD.flatP]; done)) ?_ | refine CallAtG.mk _ (fun _ => g37 ..) ?_ | refine CallDS.mk _ (by simp [RV.data]) (fun _ => g37 ..) (by first | (intro h; cases h; done) | (intro _; repeat' (first | exact List.forall_mem_nil _ | trivial | refine List.forall_mem_cons.2 ⟨?_, ?_⟩)) | (intro _; simp [RV.flatP, CD.flatP]; done)) ?_ | refine CallAt.mk _ (g39 ..) (by first | (intro h; cases h; done) | (intro _; repeat' (first | exact List.forall_mem_nil _ | trivial | refine List.forall_mem_cons.2 ⟨?_, ?_⟩)) | (intro _; simp [RV.flatP, CD.flatP]; done)) ?_ | refine CallAtG.mk _ (fun _ => g39 ..) ?_ | refine CallDS.mk _ (by simp [RV.data]) (fun _ => g39 ..) (by first | (intro h; cases h; done) | (intro _; repeat' (first | exact List.forall_mem_nil _ | trivial | refine List.forall_mem_cons.2 ⟨?_, ?_⟩)) | (intro _; simp [RV.flatP, CD.flatP]; done)) ?_ | refine CallAt.mk _ (g43a ..) (by first | (intro h; cases h; done) | (intro _; repeat' (first | exact List.forall_mem_nil _ | trivial | refine List.forall_mem_cons.2 ⟨?_, ?_⟩)) | (intro _; simp [RV.flatP, CD.flatP]; done)) ?_ | refine CallAtG.mk _ (fun _ => g43a ..) ?_ | refine CallDS.mk _ (by simp [RV.data]) (fun _ => g43a ..) (by first | (intro h; cases h; done) | (intro _; repeat' (first | exact List.forall_mem_nil _ | trivial | refine List.forall_mem_cons.2 ⟨?_, ?_⟩)) | (intro _; simp [RV.flatP, CD.flatP]; done)) ?_ | refine CallAt.mk _ (g43b ..) (by first | (intro h; cases h; done) | (intro _; repeat' (first | exact List.forall_mem_nil _ | trivial | refine List.forall_mem_cons.2 ⟨?_, ?_⟩)) | (intro _; simp [RV.flatP, CD.flatP]; done)) ?_ | refine CallAtG.mk _ (fun _ => g43b ..) ?_ | refine CallDS.mk _ (by simp [RV.data]) (fun _ => g43b ..) (by first | (intro h; cases h; done) | (intro _; repeat' (first | exact List.forall_mem_nil _ | trivial | refine List.forall_mem_cons.2 ⟨?_, ?_⟩)) | (intro _; simp [RV.flatP, CD.flatP]; done)) ?_); try simp (disch := omega) only [go_sem, seval, reduceCtorEq, ↓reduceIte, beq_dec, Int.toNat_natCast, IntKind.signed, IntKind.bits]) | refine And.intro (fun hc => (?_ : AW _ _ _ _)) (fun hc => (?_ : AW _ _ _ _)) | simp (disch := omega) only [go_sem, seval, reduceCtorEq, ↓reduceIte, beq_dec, Int.toNat_natCast, IntKind.signed, IntKind.bits] | (refine And.intro ?_ ?_; focus (first | (intros; omega) | (intros; simp_all; done))) | refine And.intro (?_ : CallAt _ _ _ _ _ _ _ _) ?_ | refine And.intro (?_ : CallAt _ _ _ _ _ _ _ _ ∧ _) ?_ | refine And.intro (?_ : AW _ _ _ _) ?_ | fail))
end Go.Proofs.Ytcimlelkeppoiaa

