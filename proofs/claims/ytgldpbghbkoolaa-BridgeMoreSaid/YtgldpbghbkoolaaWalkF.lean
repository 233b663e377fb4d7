/-
  Lemmas for the proof: no statement of its own.
-/
import Derived.Test.YtgldpbghbkoolaaWalkD
import Derived.Test.YtgldpbghbkoolaaWalkE
import Derived.Test.YtgldpbghbkoolaaWalkA
import Derived.KernelRfl
set_option linter.unusedVariables false
set_option linter.unusedSimpArgs false
-- P p_15.txt
open Go Go.AL Go.RowKit
namespace Go.Proofs.Ytgldpbghbkoolaa
set_option maxRecDepth 20000
/-! ### names of components, link by link -/
structure Pt where
  (nm : List Nat) (c : Int)
def reS (a b : Nat) (nm : List Nat) : List Nat := nm.map fun x => if x = b then a else x
def ptK (es : Es) (use : Nat → Bool) (s : Pt) (k : Nat) : Pt :=
  if nth s.nm (nth es k).1 = nth s.nm (nth es k).2 ∨ use k = false then s else ⟨reS (nth s.nm (nth es k).1) (nth s.nm (nth es k).2) s.nm, s.c - 1⟩
def ptS (es : Es) (use : Nat → Bool) (n : Nat) : Nat → Pt
  | 0 => ⟨List.range n, n⟩
  | k + 1 => ptK es use (ptS es use n k) k
theorem ptS_len (es : Es) (use : Nat → Bool) (n : Nat) : ∀ k, (ptS es use n k).nm.length = n ∧ (n : Int) - k ≤ (ptS es use n k).c ∧ (ptS es use n k).c ≤ n
  | 0 => by simp [ptS]
  | k + 1 => by
    obtain ⟨a, b, c⟩ := ptS_len es use n k
    simp only [ptS, ptK]
    split
    · exact ⟨a, by omega, c⟩
    · exact ⟨by simp [reS, a], by simp only []; omega, by simp only []; omega⟩
def mxL (f : Nat → Nat) (l : List Nat) (i : Nat) : List Nat := (l.take i).map f ++ l.drop i
theorem mxL_len (f : Nat → Nat) (l : List Nat) (i : Nat) : (mxL f l i).length = l.length := by simp [mxL]; omega
theorem mxL_end (f : Nat → Nat) (l : List Nat) : mxL f l l.length = l.map f := by simp [mxL]
theorem mxL_at (f : Nat → Nat) (l : List Nat) (i : Nat) (h : i < l.length) : nth (mxL f l i) i = nth l i := by
  rw [nth_eq _ i (by rw [mxL_len]; exact h), nth_eq l i h]
  unfold mxL
  rw [List.getElem_append_right (by simp; omega)]
  simp [Nat.min_eq_left (Nat.le_of_lt h)]
theorem mxL_set (f : Nat → Nat) (l : List Nat) (i : Nat) (h : i < l.length) : (mxL f l i).set i (f (nth l i)) = mxL f l (i + 1) := by
  unfold mxL
  have h1 : ((l.take i).map f).length = i := by simp; omega
  rw [List.set_append_right _ _ (by omega), h1, Nat.sub_self, List.take_succ_eq_append_getElem h, List.drop_eq_getElem_cons h, nth_eq l i h]
  rw [List.map_append, List.set_cons_zero, List.append_assoc]; rfl
theorem mxL_same (f : Nat → Nat) (l : List Nat) (i : Nat) (h : i < l.length) (he : f (nth l i) = nth l i) : mxL f l i = mxL f l (i + 1) := by
  rw [← mxL_set f l i h, he]
  have h2 : i < (mxL f l i).length := by rw [mxL_len]; exact h
  have h3 := mxL_at f l i h
  rw [nth_eq _ i h2] at h3
  rw [← h3, List.set_getElem_self]
theorem iN_set (l : List Nat) (i v : Nat) : (iN l).set i [CD.I (v : Int)] = iN (l.set i v) := by unfold iN; rw [List.map_set]
theorem rangeN_set (n i : Nat) (hi : i < n) : (iN (List.range i ++ List.replicate (n - i) 0)).set i [CD.I (i : Int)] = iN (List.range (i + 1) ++ List.replicate (n - (i + 1)) 0) := by
  rw [iN_set, List.set_append_right _ _ (by simp)]
  simp only [List.length_range, Nat.sub_self]
  obtain ⟨k, hk⟩ : ∃ k, n - i = k + 1 := ⟨n - i - 1, by omega⟩
  rw [hk, show n - (i + 1) = k by omega, List.replicate_succ, List.set_cons_zero, List.range_succ]
  simp
end Go.Proofs.Ytgldpbghbkoolaa

-- P p_15.txt
open Go Go.AL Go.RowKit
namespace Go.Proofs.Ytgldpbghbkoolaa
set_option maxRecDepth 20000
theorem n49 (k : Int) : FnR Try.prog 49 [.I k] [.c (.B true)] := by
  refine fn_walk code49 (by simp) ?_
  (repeat' (first | refine NextAt.mk (fun hc => ?_) (fun pre n v post hc hkey => ?_) | refine Sni.mk (fun hc => ?_) ?_ | refine Both.mk ?_ ?_ | refine AW_seq ?_ | refine AW_block ?_ | ((first | refine AW_reg ?_ | refine AW_cond ?_ | refine AW_skip ?_ | refine AW_exit ?_ | refine AW_ret ?_ | refine AW_regD (by kernel_rfl) ?_ | refine AW_regX (by kernel_rfl) ?_ | refine CallAtG.t (Eq.refl true) ?_ | refine CallAtG.f (Eq.refl false) ?_); try simp (disch := omega) only [go_sem, seval, reduceCtorEq, ↓reduceIte, beq_dec, Int.toNat_natCast, IntKind.signed, IntKind.bits]) | refine And.intro (fun hc => (?_ : AW _ _ _ _)) (fun hc => (?_ : AW _ _ _ _)) | simp (disch := omega) only [go_sem, seval, reduceCtorEq, ↓reduceIte, beq_dec, Int.toNat_natCast, IntKind.signed, IntKind.bits] | (refine And.intro ?_ ?_; focus (first | (intros; omega) | (intros; simp_all; done))) | refine And.intro (?_ : CallAt _ _ _ _ _ _ _ _) ?_ | refine And.intro (?_ : CallAt _ _ _ _ _ _ _ _ ∧ _) ?_ | refine And.intro (?_ : AW _ _ _ _) ?_ | fail))
theorem n60 (i k : Nat) : FnW Try.prog 60 [.I i, .ptr 1000006 0] [(1000006, .box 3 [.I k])] [.c (.B (decide (i ≠ k)))] [(1000006, .box 3 [.I k])] [1000006] := by
  have e : decide (i ≠ k) = !decide ((i : Int) = (k : Int)) := by
    by_cases h : i = k
    · subst h; simp
    · have : ¬ ((i : Int) = (k : Int)) := by omega
      simp [h, this]
  rw [e]
  refine fn_walkW code60 (by simp) (by rfl) ?_
  (repeat' (first | refine NextAt.mk (fun hc => ?_) (fun pre n v post hc hkey => ?_) | refine Sni.mk (fun hc => ?_) ?_ | refine Both.mk ?_ ?_ | refine AW_seq ?_ | refine AW_block ?_ | ((first | refine AW_reg ?_ | refine AW_cond ?_ | refine AW_skip ?_ | refine AW_exit ?_ | refine AW_ret ?_ | refine AW_regD (by kernel_rfl) ?_ | refine AW_regX (by kernel_rfl) ?_ | refine CallAtG.t (Eq.refl true) ?_ | refine CallAtG.f (Eq.refl false) ?_); try simp (disch := omega) only [go_sem, seval, reduceCtorEq, ↓reduceIte, beq_dec, Int.toNat_natCast, IntKind.signed, IntKind.bits]) | refine And.intro (fun hc => (?_ : AW _ _ _ _)) (fun hc => (?_ : AW _ _ _ _)) | simp (disch := omega) only [go_sem, seval, reduceCtorEq, ↓reduceIte, beq_dec, Int.toNat_natCast, IntKind.signed, IntKind.bits] | (refine And.intro ?_ ?_; focus (first | (intros; omega) | (intros; simp_all; done))) | refine And.intro (?_ : CallAt _ _ _ _ _ _ _ _) ?_ | refine And.intro (?_ : CallAt _ _ _ _ _ _ _ _ ∧ _) ?_ | refine And.intro (?_ : AW _ _ _ _) ?_ | fail))
set_option maxHeartbeats 8000000 in
theorem n40a (n : Nat) (ids : List Int) (es : Es)  (hn : n ≤ 70) (he : EsLt es n) (hel : es.length ≤ 70) : FnR Try.prog 40 [netAV n ids es, .fn 49 []] [.own 3 1 (iN (ptS es (fun _ => true) n es.length).nm), .c (.I (ptS es (fun _ => true) n es.length).c)] := by
  refine fn_walk code40 (by simp) ?_
  (repeat' (first | refine NextAt.mk (fun hc => ?_) (fun pre n v post hc hkey => ?_) | refine Sni.mk (fun hc => ?_) ?_ | refine Both.mk ?_ ?_ | refine AW_seq ?_ | refine AW_block ?_ | ((first | refine AW_reg ?_ | refine AW_cond ?_ | refine AW_skip ?_ | refine AW_exit ?_ | refine AW_ret ?_ | refine AW_regD (by kernel_rfl) ?_ | refine AW_regX (by kernel_rfl) ?_ | refine CallAtG.t (Eq.refl true) ?_ | refine CallAtG.f (Eq.refl false) ?_); try simp (disch := omega) only [go_sem, seval, reduceCtorEq, ↓reduceIte, beq_dec, Int.toNat_natCast, IntKind.signed, IntKind.bits, maxLen]) | refine And.intro (fun hc => (?_ : AW _ _ _ _)) (fun hc => (?_ : AW _ _ _ _)) | simp (disch := omega) only [go_sem, seval, reduceCtorEq, ↓reduceIte, beq_dec, Int.toNat_natCast, IntKind.signed, IntKind.bits, maxLen] | (refine And.intro ?_ ?_; focus (first | (intros; omega) | (intros; simp_all; done))) | refine And.intro (?_ : CallAt _ _ _ _ _ _ _ _) ?_ | refine And.intro (?_ : CallAt _ _ _ _ _ _ _ _ ∧ _) ?_ | refine And.intro (?_ : AW _ _ _ _) ?_ | fail))
  refine AW_loopK [1, 2, 6, 18] [7, 19, 20, 21, 22, 23, 24, 25, 26] (fun i : Nat => i ≤ n) (fun i => [(19, .I i)]) (fun i => [(16, .arr 3 1 (iN (List.range i ++ List.replicate (n - i) 0)))]) (fun i => n - i) 0 (by omega) ?_ ?_
  · simp (disch := omega) only [go_sem, seval, reduceCtorEq, ↓reduceIte, beq_dec, Int.toNat_natCast, IntKind.signed, IntKind.bits, Int.natCast_zero, List.range_zero, List.nil_append, Nat.sub_zero, List.map_replicate]
  · intro i hi
    have hil2 : (List.range i ++ List.replicate (n - i) 0).length = n := by simp; omega
    rcases Nat.lt_or_ge i n with hin | hin
    · have hset := rangeN_set n i hin
      have hge := getD_map (fun x : Nat => [CD.I (x : Int)]) (List.range i ++ List.replicate (n - i) 0) i [] (by omega)
      (repeat' (first | refine NextAt.mk (fun hc => ?_) (fun pre n v post hc hkey => ?_) | refine Sni.mk (fun hc => ?_) ?_ | refine Both.mk ?_ ?_ | refine AW_seq ?_ | refine AW_block ?_ | ((first | refine AW_reg ?_ | refine AW_cond ?_ | refine AW_skip ?_ | refine AW_exit ?_ | refine AW_ret ?_ | refine AW_regD (by kernel_rfl) ?_ | refine AW_regX (by kernel_rfl) ?_ | refine CallAtG.t (Eq.refl true) ?_ | refine CallAtG.f (Eq.refl false) ?_); try simp (disch := omega) only [go_sem, seval, reduceCtorEq, ↓reduceIte, beq_dec, Int.toNat_natCast, IntKind.signed, IntKind.bits, List.length_map, hil2, hge, List.set_cons_zero, hset, Int.toNat_natCast, List.length_replicate]) | refine And.intro (fun hc => (?_ : AW _ _ _ _)) (fun hc => (?_ : AW _ _ _ _)) | simp (disch := omega) only [go_sem, seval, reduceCtorEq, ↓reduceIte, beq_dec, Int.toNat_natCast, IntKind.signed, IntKind.bits, List.length_map, hil2, hge, List.set_cons_zero, hset, Int.toNat_natCast, List.length_replicate] | (refine And.intro ?_ ?_; focus (first | (intros; omega) | (intros; simp_all; done))) | refine And.intro (?_ : CallAt _ _ _ _ _ _ _ _) ?_ | refine And.intro (?_ : CallAt _ _ _ _ _ _ _ _ ∧ _) ?_ | refine And.intro (?_ : AW _ _ _ _) ?_ | fail))
      · refine .mk (i + 1) (by omega) (by omega) ?_
        simp (disch := omega) only [go_sem, seval, reduceCtorEq, ↓reduceIte, beq_dec, Int.toNat_natCast, IntKind.signed, IntKind.bits, Int.natCast_add, Int.natCast_one]
      · exfalso; omega
    · obtain rfl : i = n := by omega
      rw [Nat.sub_self, List.replicate_zero, List.append_nil]
      (repeat' (first | refine NextAt.mk (fun hc => ?_) (fun pre n v post hc hkey => ?_) | refine Sni.mk (fun hc => ?_) ?_ | refine Both.mk ?_ ?_ | refine AW_seq ?_ | refine AW_block ?_ | ((first | refine AW_reg ?_ | refine AW_cond ?_ | refine AW_skip ?_ | refine AW_exit ?_ | refine AW_ret ?_ | refine AW_regD (by kernel_rfl) ?_ | refine AW_regX (by kernel_rfl) ?_ | refine CallAtG.t (Eq.refl true) ?_ | refine CallAtG.f (Eq.refl false) ?_); try simp (disch := omega) only [go_sem, seval, reduceCtorEq, ↓reduceIte, beq_dec, Int.toNat_natCast, IntKind.signed, IntKind.bits, List.length_map, List.length_range, List.length_replicate]) | refine And.intro (fun hc => (?_ : AW _ _ _ _)) (fun hc => (?_ : AW _ _ _ _)) | simp (disch := omega) only [go_sem, seval, reduceCtorEq, ↓reduceIte, beq_dec, Int.toNat_natCast, IntKind.signed, IntKind.bits, List.length_map, List.length_range, List.length_replicate] | (refine And.intro ?_ ?_; focus (first | (intros; omega) | (intros; simp_all; done))) | refine And.intro (?_ : CallAt _ _ _ _ _ _ _ _) ?_ | refine And.intro (?_ : CallAt _ _ _ _ _ _ _ _ ∧ _) ?_ | refine And.intro (?_ : AW _ _ _ _) ?_ | fail))
      · exfalso; omega
      refine AW_loopK [1, 6, 30, 31] [8, 9, 10, 11, 12, 13, 32, 33, 34, 35, 36, 37, 38, 39, 40, 41, 42, 43, 44, 45, 46, 47, 48, 49, 50, 51, 52, 53, 54, 55, 56, 57, 58, 59, 60, 61, 62, 63, 64, 65, 66, 67, 68, 69, 70, 71, 72, 73, 74] (fun k : Nat => k ≤ es.length) (fun k => [(32, .I k), (8, .I (ptS es (fun _ => true) i k).c)]) (fun k => [(16, .arr 3 1 (iN (ptS es (fun _ => true) i k).nm))]) (fun k => es.length - k) 0 (by omega) ?_ ?_
      · simp (disch := omega) only [go_sem, seval, reduceCtorEq, ↓reduceIte, beq_dec, Int.toNat_natCast, IntKind.signed, IntKind.bits, Int.natCast_zero, ptS]
      · intro k hk
        obtain ⟨pl, pc1, pc2⟩ := ptS_len es (fun _ => true) i k
        rcases Nat.lt_or_ge k es.length with hkl | hkl
        · have hsuc : ptS es (fun _ => true) i (k + 1) = ptK es (fun _ => true) (ptS es (fun _ => true) i k) k := rfl
          unfold ptK at hsuc
          obtain ⟨x1, x2⟩ := he k hkl
          generalize ptS es (fun _ => true) i k = s at *
          generalize hE : nth es k = e at *
          obtain ⟨x, y⟩ := e
          simp only at x1 x2 hsuc
          have gx := getD_map (fun x : Nat => [CD.I (x : Int)]) s.nm x [] (by omega)
          have gy := getD_map (fun x : Nat => [CD.I (x : Int)]) s.nm y [] (by omega)
          generalize hA : nth s.nm x = A at *
          generalize hB : nth s.nm y = B at *
          have g49 := n49 k
          by_cases hab : A = B
          · have e1 : ((A : Int) = (B : Int)) = True := by simp; omega
            rw [if_pos (.inl hab)] at hsuc
            (repeat' (first | refine NextAt.mk (fun hc => ?_) (fun pre n v post hc hkey => ?_) | refine Sni.mk (fun hc => ?_) ?_ | refine Both.mk ?_ ?_ | refine AW_seq ?_ | refine AW_block ?_ | ((first | refine AW_reg ?_ | refine AW_cond ?_ | refine AW_skip ?_ | refine AW_exit ?_ | refine AW_ret ?_ | refine AW_regD (by kernel_rfl) ?_ | refine AW_regX (by kernel_rfl) ?_ | refine CallAtG.t (Eq.refl true) ?_ | refine CallAtG.f (Eq.refl false) ?_); try simp (disch := omega) only [go_sem, seval, reduceCtorEq, ↓reduceIte, beq_dec, Int.toNat_natCast, IntKind.signed, IntKind.bits, List.length_map, getD_map (fun e : Nat × Nat => [CD.I (e.1 : Int), CD.I (e.2 : Int)]), hE, gx, gy, e1, Int.toNat_natCast, pl]) | refine And.intro (fun hc => (?_ : AW _ _ _ _)) (fun hc => (?_ : AW _ _ _ _)) | simp (disch := omega) only [go_sem, seval, reduceCtorEq, ↓reduceIte, beq_dec, Int.toNat_natCast, IntKind.signed, IntKind.bits, List.length_map, getD_map (fun e : Nat × Nat => [CD.I (e.1 : Int), CD.I (e.2 : Int)]), hE, gx, gy, e1, Int.toNat_natCast, pl] | (refine And.intro ?_ ?_; focus (first | (intros; omega) | (intros; simp_all; done))) | refine And.intro (?_ : CallAt _ _ _ _ _ _ _ _) ?_ | refine And.intro (?_ : CallAt _ _ _ _ _ _ _ _ ∧ _) ?_ | refine And.intro (?_ : AW _ _ _ _) ?_ | fail))
            · refine .mk (k + 1) (by omega) (by omega) ?_
              rw [hsuc]
              simp (disch := omega) only [go_sem, seval, reduceCtorEq, ↓reduceIte, beq_dec, Int.toNat_natCast, IntKind.signed, IntKind.bits, Int.natCast_add, Int.natCast_one]
            · exfalso; omega
          · have e1 : ((A : Int) = (B : Int)) = False := by simp; omega
            cases hu : (fun _ => true) k with
            | false => cases hu
            | true =>
              rw [if_neg (by rintro (h | h); exact hab h; exact Bool.noConfusion (hu.symm.trans h))] at hsuc
              try dsimp only at hu
              try rw [hu] at g49
              (repeat' (first | refine NextAt.mk (fun hc => ?_) (fun pre n v post hc hkey => ?_) | refine Sni.mk (fun hc => ?_) ?_ | refine Both.mk ?_ ?_ | refine AW_seq ?_ | refine AW_block ?_ | ((first | refine AW_reg ?_ | refine AW_cond ?_ | refine AW_skip ?_ | refine AW_exit ?_ | refine AW_ret ?_ | refine AW_regD (by kernel_rfl) ?_ | refine AW_regX (by kernel_rfl) ?_ | refine CallAtG.t (Eq.refl true) ?_ | refine CallAtG.f (Eq.refl false) ?_ | refine CallAt.mk _ (g49 ..) (by first | (intro h; cases h; done) | (intro _; repeat' (first | exact List.forall_mem_nil _ | trivial | refine List.forall_mem_cons.2 ⟨?_, ?_⟩)) | (intro _; simp [RV.flatP, CD.flatP, List.length_map, getD_map (fun e : Nat × Nat => [CD.I (e.1 : Int), CD.I (e.2 : Int)]), hE, gx, gy, e1, Int.toNat_natCast, pl, inK]; done)) ?_ | refine CallAtG.mk _ (fun _ => g49 ..) ?_ | refine CallDS.mk _ (by simp [RV.data]) (fun _ => g49 ..) (by first | (intro h; cases h; done) | (intro _; repeat' (first | exact List.forall_mem_nil _ | trivial | refine List.forall_mem_cons.2 ⟨?_, ?_⟩)) | (intro _; simp [RV.flatP, CD.flatP, List.length_map, getD_map (fun e : Nat × Nat => [CD.I (e.1 : Int), CD.I (e.2 : Int)]), hE, gx, gy, e1, Int.toNat_natCast, pl, inK]; done)) ?_); try simp (disch := omega) only [go_sem, seval, reduceCtorEq, ↓reduceIte, beq_dec, Int.toNat_natCast, IntKind.signed, IntKind.bits, List.length_map, getD_map (fun e : Nat × Nat => [CD.I (e.1 : Int), CD.I (e.2 : Int)]), hE, gx, gy, e1, Int.toNat_natCast, pl, inK]) | refine And.intro (fun hc => (?_ : AW _ _ _ _)) (fun hc => (?_ : AW _ _ _ _)) | simp (disch := omega) only [go_sem, seval, reduceCtorEq, ↓reduceIte, beq_dec, Int.toNat_natCast, IntKind.signed, IntKind.bits, List.length_map, getD_map (fun e : Nat × Nat => [CD.I (e.1 : Int), CD.I (e.2 : Int)]), hE, gx, gy, e1, Int.toNat_natCast, pl, inK] | (refine And.intro ?_ ?_; focus (first | (intros; omega) | (intros; simp_all; done))) | refine And.intro (?_ : CallAt _ _ _ _ _ _ _ _) ?_ | refine And.intro (?_ : CallAt _ _ _ _ _ _ _ _ ∧ _) ?_ | refine And.intro (?_ : AW _ _ _ _) ?_ | fail))
              · refine AW_loopK [1, 6, 8, 11, 12, 30, 31, 32, 59] [13, 60, 61, 62, 63, 64, 65, 66, 67, 68, 69, 70, 71, 72, 73] (fun j : Nat => j ≤ s.nm.length) (fun j => [(60, .I j)]) (fun j => [(16, .arr 3 1 (iN (mxL (fun x => if x = B then A else x) s.nm j)))]) (fun j => s.nm.length - j) 0 (by omega) ?_ ?_
                · simp (disch := omega) only [go_sem, seval, reduceCtorEq, ↓reduceIte, beq_dec, Int.toNat_natCast, IntKind.signed, IntKind.bits, Int.natCast_zero, mxL, List.take_zero, List.map_nil, List.nil_append, List.drop_zero]
                · intro j hj
                  have ml := mxL_len (fun x => if x = B then A else x) s.nm j
                  rcases Nat.lt_or_ge j s.nm.length with hjl | hjl
                  · have gj := getD_map (fun x : Nat => [CD.I (x : Int)]) (mxL (fun x => if x = B then A else x) s.nm j) j [] (by omega)
                    have ma := mxL_at (fun x => if x = B then A else x) s.nm j hjl
                    have ms := mxL_set (fun x => if x = B then A else x) s.nm j hjl
                    have mm := mxL_same (fun x => if x = B then A else x) s.nm j hjl
                    rw [ma] at gj
                    by_cases hjb : nth s.nm j = B
                    · have e2 : ((nth s.nm j : Nat) : Int) = (B : Int) := by omega
                      simp only [hjb, if_true] at ms
                      (repeat' (first | refine NextAt.mk (fun hc => ?_) (fun pre n v post hc hkey => ?_) | refine Sni.mk (fun hc => ?_) ?_ | refine Both.mk ?_ ?_ | refine AW_seq ?_ | refine AW_block ?_ | ((first | refine AW_reg ?_ | refine AW_cond ?_ | refine AW_skip ?_ | refine AW_exit ?_ | refine AW_ret ?_ | refine AW_regD (by kernel_rfl) ?_ | refine AW_regX (by kernel_rfl) ?_ | refine CallAtG.t (Eq.refl true) ?_ | refine CallAtG.f (Eq.refl false) ?_); try simp (disch := omega) only [go_sem, seval, reduceCtorEq, ↓reduceIte, beq_dec, Int.toNat_natCast, IntKind.signed, IntKind.bits, List.length_map, gj, e2, Int.toNat_natCast, ml, pl, List.set_cons_zero, iN_set, ms]) | refine And.intro (fun hc => (?_ : AW _ _ _ _)) (fun hc => (?_ : AW _ _ _ _)) | simp (disch := omega) only [go_sem, seval, reduceCtorEq, ↓reduceIte, beq_dec, Int.toNat_natCast, IntKind.signed, IntKind.bits, List.length_map, gj, e2, Int.toNat_natCast, ml, pl, List.set_cons_zero, iN_set, ms] | (refine And.intro ?_ ?_; focus (first | (intros; omega) | (intros; simp_all; done))) | refine And.intro (?_ : CallAt _ _ _ _ _ _ _ _) ?_ | refine And.intro (?_ : CallAt _ _ _ _ _ _ _ _ ∧ _) ?_ | refine And.intro (?_ : AW _ _ _ _) ?_ | fail))
                      · refine .mk (j + 1) (by omega) (by omega) ?_
                        simp (disch := omega) only [go_sem, seval, reduceCtorEq, ↓reduceIte, beq_dec, Int.toNat_natCast, IntKind.signed, IntKind.bits, Int.natCast_add, Int.natCast_one]
                      all_goals (exfalso; omega)
                    · have e2 : (((nth s.nm j : Nat) : Int) = (B : Int)) = False := by simp; omega
                      have mm := mm (if_neg hjb)
                      (repeat' (first | refine NextAt.mk (fun hc => ?_) (fun pre n v post hc hkey => ?_) | refine Sni.mk (fun hc => ?_) ?_ | refine Both.mk ?_ ?_ | refine AW_seq ?_ | refine AW_block ?_ | ((first | refine AW_reg ?_ | refine AW_cond ?_ | refine AW_skip ?_ | refine AW_exit ?_ | refine AW_ret ?_ | refine AW_regD (by kernel_rfl) ?_ | refine AW_regX (by kernel_rfl) ?_ | refine CallAtG.t (Eq.refl true) ?_ | refine CallAtG.f (Eq.refl false) ?_); try simp (disch := omega) only [go_sem, seval, reduceCtorEq, ↓reduceIte, beq_dec, Int.toNat_natCast, IntKind.signed, IntKind.bits, List.length_map, gj, e2, Int.toNat_natCast, ml, pl]) | refine And.intro (fun hc => (?_ : AW _ _ _ _)) (fun hc => (?_ : AW _ _ _ _)) | simp (disch := omega) only [go_sem, seval, reduceCtorEq, ↓reduceIte, beq_dec, Int.toNat_natCast, IntKind.signed, IntKind.bits, List.length_map, gj, e2, Int.toNat_natCast, ml, pl] | (refine And.intro ?_ ?_; focus (first | (intros; omega) | (intros; simp_all; done))) | refine And.intro (?_ : CallAt _ _ _ _ _ _ _ _) ?_ | refine And.intro (?_ : CallAt _ _ _ _ _ _ _ _ ∧ _) ?_ | refine And.intro (?_ : AW _ _ _ _) ?_ | fail))
                      · refine .mk (j + 1) (by omega) (by omega) ?_
                        rw [← mm]
                        simp (disch := omega) only [go_sem, seval, reduceCtorEq, ↓reduceIte, beq_dec, Int.toNat_natCast, IntKind.signed, IntKind.bits, Int.natCast_add, Int.natCast_one]
                      all_goals (exfalso; omega)
                  · obtain rfl : j = s.nm.length := by omega
                    rw [mxL_end]
                    (repeat' (first | refine NextAt.mk (fun hc => ?_) (fun pre n v post hc hkey => ?_) | refine Sni.mk (fun hc => ?_) ?_ | refine Both.mk ?_ ?_ | refine AW_seq ?_ | refine AW_block ?_ | ((first | refine AW_reg ?_ | refine AW_cond ?_ | refine AW_skip ?_ | refine AW_exit ?_ | refine AW_ret ?_ | refine AW_regD (by kernel_rfl) ?_ | refine AW_regX (by kernel_rfl) ?_ | refine CallAtG.t (Eq.refl true) ?_ | refine CallAtG.f (Eq.refl false) ?_); try simp (disch := omega) only [go_sem, seval, reduceCtorEq, ↓reduceIte, beq_dec, Int.toNat_natCast, IntKind.signed, IntKind.bits, List.length_map, pl]) | refine And.intro (fun hc => (?_ : AW _ _ _ _)) (fun hc => (?_ : AW _ _ _ _)) | simp (disch := omega) only [go_sem, seval, reduceCtorEq, ↓reduceIte, beq_dec, Int.toNat_natCast, IntKind.signed, IntKind.bits, List.length_map, pl] | (refine And.intro ?_ ?_; focus (first | (intros; omega) | (intros; simp_all; done))) | refine And.intro (?_ : CallAt _ _ _ _ _ _ _ _) ?_ | refine And.intro (?_ : CallAt _ _ _ _ _ _ _ _ ∧ _) ?_ | refine And.intro (?_ : AW _ _ _ _) ?_ | fail))
                    · exfalso; omega
                    · refine .mk (k + 1) (by omega) (by omega) ?_
                      rw [hsuc]
                      simp (disch := omega) only [go_sem, seval, reduceCtorEq, ↓reduceIte, beq_dec, Int.toNat_natCast, IntKind.signed, IntKind.bits, Int.natCast_add, Int.natCast_one]
                      all_goals rfl
              all_goals (exfalso; omega)
        · obtain rfl : k = es.length := by omega
          (repeat' (first | refine NextAt.mk (fun hc => ?_) (fun pre n v post hc hkey => ?_) | refine Sni.mk (fun hc => ?_) ?_ | refine Both.mk ?_ ?_ | refine AW_seq ?_ | refine AW_block ?_ | ((first | refine AW_reg ?_ | refine AW_cond ?_ | refine AW_skip ?_ | refine AW_exit ?_ | refine AW_ret ?_ | refine AW_regD (by kernel_rfl) ?_ | refine AW_regX (by kernel_rfl) ?_ | refine CallAtG.t (Eq.refl true) ?_ | refine CallAtG.f (Eq.refl false) ?_); try simp (disch := omega) only [go_sem, seval, reduceCtorEq, ↓reduceIte, beq_dec, Int.toNat_natCast, IntKind.signed, IntKind.bits, List.length_map]) | refine And.intro (fun hc => (?_ : AW _ _ _ _)) (fun hc => (?_ : AW _ _ _ _)) | simp (disch := omega) only [go_sem, seval, reduceCtorEq, ↓reduceIte, beq_dec, Int.toNat_natCast, IntKind.signed, IntKind.bits, List.length_map] | (refine And.intro ?_ ?_; focus (first | (intros; omega) | (intros; simp_all; done))) | refine And.intro (?_ : CallAt _ _ _ _ _ _ _ _) ?_ | refine And.intro (?_ : CallAt _ _ _ _ _ _ _ _ ∧ _) ?_ | refine And.intro (?_ : AW _ _ _ _) ?_ | fail))
          · exfalso; omega
          all_goals trace_state
set_option maxHeartbeats 8000000 in
theorem n40b (n : Nat) (ids : List Int) (es : Es) (z : Nat) (hn : n ≤ 70) (he : EsLt es n) (hel : es.length ≤ 70) : FnW Try.prog 40 [netAV n ids es, .fn 60 [.ptr 1000006 0]] [(1000006, .box 3 [.I z])] [.own 3 1 (iN (ptS es (fun k => decide (k ≠ z)) n es.length).nm), .c (.I (ptS es (fun k => decide (k ≠ z)) n es.length).c)] [(1000006, .box 3 [.I z])] [1000006] := by
  refine fn_walkW code40 (by simp) (by rfl) ?_
  (repeat' (first | refine NextAt.mk (fun hc => ?_) (fun pre n v post hc hkey => ?_) | refine Sni.mk (fun hc => ?_) ?_ | refine Both.mk ?_ ?_ | refine AW_seq ?_ | refine AW_block ?_ | ((first | refine AW_reg ?_ | refine AW_cond ?_ | refine AW_skip ?_ | refine AW_exit ?_ | refine AW_ret ?_ | refine AW_regD (by kernel_rfl) ?_ | refine AW_regX (by kernel_rfl) ?_ | refine CallAtG.t (Eq.refl true) ?_ | refine CallAtG.f (Eq.refl false) ?_); try simp (disch := omega) only [go_sem, seval, reduceCtorEq, ↓reduceIte, beq_dec, Int.toNat_natCast, IntKind.signed, IntKind.bits, maxLen]) | refine And.intro (fun hc => (?_ : AW _ _ _ _)) (fun hc => (?_ : AW _ _ _ _)) | simp (disch := omega) only [go_sem, seval, reduceCtorEq, ↓reduceIte, beq_dec, Int.toNat_natCast, IntKind.signed, IntKind.bits, maxLen] | (refine And.intro ?_ ?_; focus (first | (intros; omega) | (intros; simp_all; done))) | refine And.intro (?_ : CallAt _ _ _ _ _ _ _ _) ?_ | refine And.intro (?_ : CallAt _ _ _ _ _ _ _ _ ∧ _) ?_ | refine And.intro (?_ : AW _ _ _ _) ?_ | fail))
  refine AW_loopK [1, 2, 6, 18] [7, 19, 20, 21, 22, 23, 24, 25, 26] (fun i : Nat => i ≤ n) (fun i => [(19, .I i)]) (fun i => [(16, .arr 3 1 (iN (List.range i ++ List.replicate (n - i) 0)))]) (fun i => n - i) 0 (by omega) ?_ ?_
  · simp (disch := omega) only [go_sem, seval, reduceCtorEq, ↓reduceIte, beq_dec, Int.toNat_natCast, IntKind.signed, IntKind.bits, Int.natCast_zero, List.range_zero, List.nil_append, Nat.sub_zero, List.map_replicate]
  · intro i hi
    have hil2 : (List.range i ++ List.replicate (n - i) 0).length = n := by simp; omega
    rcases Nat.lt_or_ge i n with hin | hin
    · have hset := rangeN_set n i hin
      have hge := getD_map (fun x : Nat => [CD.I (x : Int)]) (List.range i ++ List.replicate (n - i) 0) i [] (by omega)
      (repeat' (first | refine NextAt.mk (fun hc => ?_) (fun pre n v post hc hkey => ?_) | refine Sni.mk (fun hc => ?_) ?_ | refine Both.mk ?_ ?_ | refine AW_seq ?_ | refine AW_block ?_ | ((first | refine AW_reg ?_ | refine AW_cond ?_ | refine AW_skip ?_ | refine AW_exit ?_ | refine AW_ret ?_ | refine AW_regD (by kernel_rfl) ?_ | refine AW_regX (by kernel_rfl) ?_ | refine CallAtG.t (Eq.refl true) ?_ | refine CallAtG.f (Eq.refl false) ?_); try simp (disch := omega) only [go_sem, seval, reduceCtorEq, ↓reduceIte, beq_dec, Int.toNat_natCast, IntKind.signed, IntKind.bits, List.length_map, hil2, hge, List.set_cons_zero, hset, Int.toNat_natCast, List.length_replicate]) | refine And.intro (fun hc => (?_ : AW _ _ _ _)) (fun hc => (?_ : AW _ _ _ _)) | simp (disch := omega) only [go_sem, seval, reduceCtorEq, ↓reduceIte, beq_dec, Int.toNat_natCast, IntKind.signed, IntKind.bits, List.length_map, hil2, hge, List.set_cons_zero, hset, Int.toNat_natCast, List.length_replicate] | (refine And.intro ?_ ?_; focus (first | (intros; omega) | (intros; simp_all; done))) | refine And.intro (?_ : CallAt _ _ _ _ _ _ _ _) ?_ | refine And.intro (?_ : CallAt _ _ _ _ _ _ _ _ ∧ _) ?_ | refine And.intro (?_ : AW _ _ _ _) ?_ | fail))
      · refine .mk (i + 1) (by omega) (by omega) ?_
        simp (disch := omega) only [go_sem, seval, reduceCtorEq, ↓reduceIte, beq_dec, Int.toNat_natCast, IntKind.signed, IntKind.bits, Int.natCast_add, Int.natCast_one]
      · exfalso; omega
    · obtain rfl : i = n := by omega
      rw [Nat.sub_self, List.replicate_zero, List.append_nil]
      (repeat' (first | refine NextAt.mk (fun hc => ?_) (fun pre n v post hc hkey => ?_) | refine Sni.mk (fun hc => ?_) ?_ | refine Both.mk ?_ ?_ | refine AW_seq ?_ | refine AW_block ?_ | ((first | refine AW_reg ?_ | refine AW_cond ?_ | refine AW_skip ?_ | refine AW_exit ?_ | refine AW_ret ?_ | refine AW_regD (by kernel_rfl) ?_ | refine AW_regX (by kernel_rfl) ?_ | refine CallAtG.t (Eq.refl true) ?_ | refine CallAtG.f (Eq.refl false) ?_); try simp (disch := omega) only [go_sem, seval, reduceCtorEq, ↓reduceIte, beq_dec, Int.toNat_natCast, IntKind.signed, IntKind.bits, List.length_map, List.length_range, List.length_replicate]) | refine And.intro (fun hc => (?_ : AW _ _ _ _)) (fun hc => (?_ : AW _ _ _ _)) | simp (disch := omega) only [go_sem, seval, reduceCtorEq, ↓reduceIte, beq_dec, Int.toNat_natCast, IntKind.signed, IntKind.bits, List.length_map, List.length_range, List.length_replicate] | (refine And.intro ?_ ?_; focus (first | (intros; omega) | (intros; simp_all; done))) | refine And.intro (?_ : CallAt _ _ _ _ _ _ _ _) ?_ | refine And.intro (?_ : CallAt _ _ _ _ _ _ _ _ ∧ _) ?_ | refine And.intro (?_ : AW _ _ _ _) ?_ | fail))
      · exfalso; omega
      refine AW_loopK [1, 6, 30, 31] [8, 9, 10, 11, 12, 13, 32, 33, 34, 35, 36, 37, 38, 39, 40, 41, 42, 43, 44, 45, 46, 47, 48, 49, 50, 51, 52, 53, 54, 55, 56, 57, 58, 59, 60, 61, 62, 63, 64, 65, 66, 67, 68, 69, 70, 71, 72, 73, 74] (fun k : Nat => k ≤ es.length) (fun k => [(32, .I k), (8, .I (ptS es (fun k => decide (k ≠ z)) i k).c)]) (fun k => [(16, .arr 3 1 (iN (ptS es (fun k => decide (k ≠ z)) i k).nm))]) (fun k => es.length - k) 0 (by omega) ?_ ?_
      · simp (disch := omega) only [go_sem, seval, reduceCtorEq, ↓reduceIte, beq_dec, Int.toNat_natCast, IntKind.signed, IntKind.bits, Int.natCast_zero, ptS]
      · intro k hk
        obtain ⟨pl, pc1, pc2⟩ := ptS_len es (fun k => decide (k ≠ z)) i k
        rcases Nat.lt_or_ge k es.length with hkl | hkl
        · have hsuc : ptS es (fun k => decide (k ≠ z)) i (k + 1) = ptK es (fun k => decide (k ≠ z)) (ptS es (fun k => decide (k ≠ z)) i k) k := rfl
          unfold ptK at hsuc
          obtain ⟨x1, x2⟩ := he k hkl
          generalize ptS es (fun k => decide (k ≠ z)) i k = s at *
          generalize hE : nth es k = e at *
          obtain ⟨x, y⟩ := e
          simp only at x1 x2 hsuc
          have gx := getD_map (fun x : Nat => [CD.I (x : Int)]) s.nm x [] (by omega)
          have gy := getD_map (fun x : Nat => [CD.I (x : Int)]) s.nm y [] (by omega)
          generalize hA : nth s.nm x = A at *
          generalize hB : nth s.nm y = B at *
          have g49 := n60 k z
          by_cases hab : A = B
          · have e1 : ((A : Int) = (B : Int)) = True := by simp; omega
            rw [if_pos (.inl hab)] at hsuc
            (repeat' (first | refine NextAt.mk (fun hc => ?_) (fun pre n v post hc hkey => ?_) | refine Sni.mk (fun hc => ?_) ?_ | refine Both.mk ?_ ?_ | refine AW_seq ?_ | refine AW_block ?_ | ((first | refine AW_reg ?_ | refine AW_cond ?_ | refine AW_skip ?_ | refine AW_exit ?_ | refine AW_ret ?_ | refine AW_regD (by kernel_rfl) ?_ | refine AW_regX (by kernel_rfl) ?_ | refine CallAtG.t (Eq.refl true) ?_ | refine CallAtG.f (Eq.refl false) ?_); try simp (disch := omega) only [go_sem, seval, reduceCtorEq, ↓reduceIte, beq_dec, Int.toNat_natCast, IntKind.signed, IntKind.bits, List.length_map, getD_map (fun e : Nat × Nat => [CD.I (e.1 : Int), CD.I (e.2 : Int)]), hE, gx, gy, e1, Int.toNat_natCast, pl]) | refine And.intro (fun hc => (?_ : AW _ _ _ _)) (fun hc => (?_ : AW _ _ _ _)) | simp (disch := omega) only [go_sem, seval, reduceCtorEq, ↓reduceIte, beq_dec, Int.toNat_natCast, IntKind.signed, IntKind.bits, List.length_map, getD_map (fun e : Nat × Nat => [CD.I (e.1 : Int), CD.I (e.2 : Int)]), hE, gx, gy, e1, Int.toNat_natCast, pl] | (refine And.intro ?_ ?_; focus (first | (intros; omega) | (intros; simp_all; done))) | refine And.intro (?_ : CallAt _ _ _ _ _ _ _ _) ?_ | refine And.intro (?_ : CallAt _ _ _ _ _ _ _ _ ∧ _) ?_ | refine And.intro (?_ : AW _ _ _ _) ?_ | fail))
            · refine .mk (k + 1) (by omega) (by omega) ?_
              rw [hsuc]
              simp (disch := omega) only [go_sem, seval, reduceCtorEq, ↓reduceIte, beq_dec, Int.toNat_natCast, IntKind.signed, IntKind.bits, Int.natCast_add, Int.natCast_one]
            · exfalso; omega
          · have e1 : ((A : Int) = (B : Int)) = False := by simp; omega
            cases hu : (fun k => decide (k ≠ z)) k with
            | false =>
              rw [if_pos (.inr hu)] at hsuc
              try dsimp only at hu
              rw [hu] at g49
              (repeat' (first | refine NextAt.mk (fun hc => ?_) (fun pre n v post hc hkey => ?_) | refine Sni.mk (fun hc => ?_) ?_ | refine Both.mk ?_ ?_ | refine AW_seq ?_ | refine AW_block ?_ | ((first | refine AW_reg ?_ | refine AW_cond ?_ | refine AW_skip ?_ | refine AW_exit ?_ | refine AW_ret ?_ | refine AW_regD (by kernel_rfl) ?_ | refine AW_regX (by kernel_rfl) ?_ | refine CallAt.mkW (g49 ..) (by rfl) (by simp (disch := omega) only [go_sem, seval, reduceCtorEq, ↓reduceIte, beq_dec, Int.toNat_natCast, IntKind.signed, IntKind.bits, List.length_map, getD_map (fun e : Nat × Nat => [CD.I (e.1 : Int), CD.I (e.2 : Int)]), hE, gx, gy, e1, Int.toNat_natCast, pl]) (by rfl) (by rfl) (by first | (intro h; cases h; done) | (intro _; simp [RV.flatP, CD.flatP, flatOb, AO.flatP, List.length_map, getD_map (fun e : Nat × Nat => [CD.I (e.1 : Int), CD.I (e.2 : Int)]), hE, gx, gy, e1, Int.toNat_natCast, pl]; done)) ?_ | refine CallAtG.t (Eq.refl true) ?_ | refine CallAtG.f (Eq.refl false) ?_); try simp (disch := omega) only [go_sem, seval, reduceCtorEq, ↓reduceIte, beq_dec, Int.toNat_natCast, IntKind.signed, IntKind.bits, List.length_map, getD_map (fun e : Nat × Nat => [CD.I (e.1 : Int), CD.I (e.2 : Int)]), hE, gx, gy, e1, Int.toNat_natCast, pl]) | refine And.intro (fun hc => (?_ : AW _ _ _ _)) (fun hc => (?_ : AW _ _ _ _)) | simp (disch := omega) only [go_sem, seval, reduceCtorEq, ↓reduceIte, beq_dec, Int.toNat_natCast, IntKind.signed, IntKind.bits, List.length_map, getD_map (fun e : Nat × Nat => [CD.I (e.1 : Int), CD.I (e.2 : Int)]), hE, gx, gy, e1, Int.toNat_natCast, pl] | (refine And.intro ?_ ?_; focus (first | (intros; omega) | (intros; simp_all; done))) | refine And.intro (?_ : CallAt _ _ _ _ _ _ _ _) ?_ | refine And.intro (?_ : CallAt _ _ _ _ _ _ _ _ ∧ _) ?_ | refine And.intro (?_ : AW _ _ _ _) ?_ | fail))
              · refine .mk (k + 1) (by omega) (by omega) ?_
                rw [hsuc]
                simp (disch := omega) only [go_sem, seval, reduceCtorEq, ↓reduceIte, beq_dec, Int.toNat_natCast, IntKind.signed, IntKind.bits, Int.natCast_add, Int.natCast_one]
              · exfalso; omega
            | true =>
              rw [if_neg (by rintro (h | h); exact hab h; exact Bool.noConfusion (hu.symm.trans h))] at hsuc
              try dsimp only at hu
              try rw [hu] at g49
              (repeat' (first | refine NextAt.mk (fun hc => ?_) (fun pre n v post hc hkey => ?_) | refine Sni.mk (fun hc => ?_) ?_ | refine Both.mk ?_ ?_ | refine AW_seq ?_ | refine AW_block ?_ | ((first | refine AW_reg ?_ | refine AW_cond ?_ | refine AW_skip ?_ | refine AW_exit ?_ | refine AW_ret ?_ | refine AW_regD (by kernel_rfl) ?_ | refine AW_regX (by kernel_rfl) ?_ | refine CallAt.mkW (g49 ..) (by rfl) (by simp (disch := omega) only [go_sem, seval, reduceCtorEq, ↓reduceIte, beq_dec, Int.toNat_natCast, IntKind.signed, IntKind.bits, List.length_map, getD_map (fun e : Nat × Nat => [CD.I (e.1 : Int), CD.I (e.2 : Int)]), hE, gx, gy, e1, Int.toNat_natCast, pl, inK]) (by rfl) (by rfl) (by first | (intro h; cases h; done) | (intro _; simp [RV.flatP, CD.flatP, flatOb, AO.flatP, List.length_map, getD_map (fun e : Nat × Nat => [CD.I (e.1 : Int), CD.I (e.2 : Int)]), hE, gx, gy, e1, Int.toNat_natCast, pl, inK]; done)) ?_ | refine CallAtG.t (Eq.refl true) ?_ | refine CallAtG.f (Eq.refl false) ?_); try simp (disch := omega) only [go_sem, seval, reduceCtorEq, ↓reduceIte, beq_dec, Int.toNat_natCast, IntKind.signed, IntKind.bits, List.length_map, getD_map (fun e : Nat × Nat => [CD.I (e.1 : Int), CD.I (e.2 : Int)]), hE, gx, gy, e1, Int.toNat_natCast, pl, inK]) | refine And.intro (fun hc => (?_ : AW _ _ _ _)) (fun hc => (?_ : AW _ _ _ _)) | simp (disch := omega) only [go_sem, seval, reduceCtorEq, ↓reduceIte, beq_dec, Int.toNat_natCast, IntKind.signed, IntKind.bits, List.length_map, getD_map (fun e : Nat × Nat => [CD.I (e.1 : Int), CD.I (e.2 : Int)]), hE, gx, gy, e1, Int.toNat_natCast, pl, inK] | (refine And.intro ?_ ?_; focus (first | (intros; omega) | (intros; simp_all; done))) | refine And.intro (?_ : CallAt _ _ _ _ _ _ _ _) ?_ | refine And.intro (?_ : CallAt _ _ _ _ _ _ _ _ ∧ _) ?_ | refine And.intro (?_ : AW _ _ _ _) ?_ | fail))
              · refine AW_loopK [1, 6, 8, 11, 12, 30, 31, 32, 59] [13, 60, 61, 62, 63, 64, 65, 66, 67, 68, 69, 70, 71, 72, 73] (fun j : Nat => j ≤ s.nm.length) (fun j => [(60, .I j)]) (fun j => [(16, .arr 3 1 (iN (mxL (fun x => if x = B then A else x) s.nm j)))]) (fun j => s.nm.length - j) 0 (by omega) ?_ ?_
                · simp (disch := omega) only [go_sem, seval, reduceCtorEq, ↓reduceIte, beq_dec, Int.toNat_natCast, IntKind.signed, IntKind.bits, Int.natCast_zero, mxL, List.take_zero, List.map_nil, List.nil_append, List.drop_zero]
                · intro j hj
                  have ml := mxL_len (fun x => if x = B then A else x) s.nm j
                  rcases Nat.lt_or_ge j s.nm.length with hjl | hjl
                  · have gj := getD_map (fun x : Nat => [CD.I (x : Int)]) (mxL (fun x => if x = B then A else x) s.nm j) j [] (by omega)
                    have ma := mxL_at (fun x => if x = B then A else x) s.nm j hjl
                    have ms := mxL_set (fun x => if x = B then A else x) s.nm j hjl
                    have mm := mxL_same (fun x => if x = B then A else x) s.nm j hjl
                    rw [ma] at gj
                    by_cases hjb : nth s.nm j = B
                    · have e2 : ((nth s.nm j : Nat) : Int) = (B : Int) := by omega
                      simp only [hjb, if_true] at ms
                      (repeat' (first | refine NextAt.mk (fun hc => ?_) (fun pre n v post hc hkey => ?_) | refine Sni.mk (fun hc => ?_) ?_ | refine Both.mk ?_ ?_ | refine AW_seq ?_ | refine AW_block ?_ | ((first | refine AW_reg ?_ | refine AW_cond ?_ | refine AW_skip ?_ | refine AW_exit ?_ | refine AW_ret ?_ | refine AW_regD (by kernel_rfl) ?_ | refine AW_regX (by kernel_rfl) ?_ | refine CallAtG.t (Eq.refl true) ?_ | refine CallAtG.f (Eq.refl false) ?_); try simp (disch := omega) only [go_sem, seval, reduceCtorEq, ↓reduceIte, beq_dec, Int.toNat_natCast, IntKind.signed, IntKind.bits, List.length_map, gj, e2, Int.toNat_natCast, ml, pl, List.set_cons_zero, iN_set, ms]) | refine And.intro (fun hc => (?_ : AW _ _ _ _)) (fun hc => (?_ : AW _ _ _ _)) | simp (disch := omega) only [go_sem, seval, reduceCtorEq, ↓reduceIte, beq_dec, Int.toNat_natCast, IntKind.signed, IntKind.bits, List.length_map, gj, e2, Int.toNat_natCast, ml, pl, List.set_cons_zero, iN_set, ms] | (refine And.intro ?_ ?_; focus (first | (intros; omega) | (intros; simp_all; done))) | refine And.intro (?_ : CallAt _ _ _ _ _ _ _ _) ?_ | refine And.intro (?_ : CallAt _ _ _ _ _ _ _ _ ∧ _) ?_ | refine And.intro (?_ : AW _ _ _ _) ?_ | fail))
                      · refine .mk (j + 1) (by omega) (by omega) ?_
                        simp (disch := omega) only [go_sem, seval, reduceCtorEq, ↓reduceIte, beq_dec, Int.toNat_natCast, IntKind.signed, IntKind.bits, Int.natCast_add, Int.natCast_one]
                      all_goals (exfalso; omega)
                    · have e2 : (((nth s.nm j : Nat) : Int) = (B : Int)) = False := by simp; omega
                      have mm := mm (if_neg hjb)
                      (repeat' (first | refine NextAt.mk (fun hc => ?_) (fun pre n v post hc hkey => ?_) | refine Sni.mk (fun hc => ?_) ?_ | refine Both.mk ?_ ?_ | refine AW_seq ?_ | refine AW_block ?_ | ((first | refine AW_reg ?_ | refine AW_cond ?_ | refine AW_skip ?_ | refine AW_exit ?_ | refine AW_ret ?_ | refine AW_regD (by kernel_rfl) ?_ | refine AW_regX (by kernel_rfl) ?_ | refine CallAtG.t (Eq.refl true) ?_ | refine CallAtG.f (Eq.refl false) ?_); try simp (disch := omega) only [go_sem, seval, reduceCtorEq, ↓reduceIte, beq_dec, Int.toNat_natCast, IntKind.signed, IntKind.bits, List.length_map, gj, e2, Int.toNat_natCast, ml, pl]) | refine And.intro (fun hc => (?_ : AW _ _ _ _)) (fun hc => (?_ : AW _ _ _ _)) | simp (disch := omega) only [go_sem, seval, reduceCtorEq, ↓reduceIte, beq_dec, Int.toNat_natCast, IntKind.signed, IntKind.bits, List.length_map, gj, e2, Int.toNat_natCast, ml, pl] | (refine And.intro ?_ ?_; focus (first | (intros; omega) | (intros; simp_all; done))) | refine And.intro (?_ : CallAt _ _ _ _ _ _ _ _) ?_ | refine And.intro (?_ : CallAt _ _ _ _ _ _ _ _ ∧ _) ?_ | refine And.intro (?_ : AW _ _ _ _) ?_ | fail))
                      · refine .mk (j + 1) (by omega) (by omega) ?_
                        rw [← mm]
                        simp (disch := omega) only [go_sem, seval, reduceCtorEq, ↓reduceIte, beq_dec, Int.toNat_natCast, IntKind.signed, IntKind.bits, Int.natCast_add, Int.natCast_one]
                      all_goals (exfalso; omega)
                  · obtain rfl : j = s.nm.length := by omega
                    rw [mxL_end]
                    (repeat' (first | refine NextAt.mk (fun hc => ?_) (fun pre n v post hc hkey => ?_) | refine Sni.mk (fun hc => ?_) ?_ | refine Both.mk ?_ ?_ | refine AW_seq ?_ | refine AW_block ?_ | ((first | refine AW_reg ?_ | refine AW_cond ?_ | refine AW_skip ?_ | refine AW_exit ?_ | refine AW_ret ?_ | refine AW_regD (by kernel_rfl) ?_ | refine AW_regX (by kernel_rfl) ?_ | refine CallAtG.t (Eq.refl true) ?_ | refine CallAtG.f (Eq.refl false) ?_); try simp (disch := omega) only [go_sem, seval, reduceCtorEq, ↓reduceIte, beq_dec, Int.toNat_natCast, IntKind.signed, IntKind.bits, List.length_map, pl]) | refine And.intro (fun hc => (?_ : AW _ _ _ _)) (fun hc => (?_ : AW _ _ _ _)) | simp (disch := omega) only [go_sem, seval, reduceCtorEq, ↓reduceIte, beq_dec, Int.toNat_natCast, IntKind.signed, IntKind.bits, List.length_map, pl] | (refine And.intro ?_ ?_; focus (first | (intros; omega) | (intros; simp_all; done))) | refine And.intro (?_ : CallAt _ _ _ _ _ _ _ _) ?_ | refine And.intro (?_ : CallAt _ _ _ _ _ _ _ _ ∧ _) ?_ | refine And.intro (?_ : AW _ _ _ _) ?_ | fail))
                    · exfalso; omega
                    · refine .mk (k + 1) (by omega) (by omega) ?_
                      rw [hsuc]
                      simp (disch := omega) only [go_sem, seval, reduceCtorEq, ↓reduceIte, beq_dec, Int.toNat_natCast, IntKind.signed, IntKind.bits, Int.natCast_add, Int.natCast_one]
                      all_goals rfl
              all_goals (exfalso; omega)
        · obtain rfl : k = es.length := by omega
          (repeat' (first | refine NextAt.mk (fun hc => ?_) (fun pre n v post hc hkey => ?_) | refine Sni.mk (fun hc => ?_) ?_ | refine Both.mk ?_ ?_ | refine AW_seq ?_ | refine AW_block ?_ | ((first | refine AW_reg ?_ | refine AW_cond ?_ | refine AW_skip ?_ | refine AW_exit ?_ | refine AW_ret ?_ | refine AW_regD (by kernel_rfl) ?_ | refine AW_regX (by kernel_rfl) ?_ | refine CallAtG.t (Eq.refl true) ?_ | refine CallAtG.f (Eq.refl false) ?_); try simp (disch := omega) only [go_sem, seval, reduceCtorEq, ↓reduceIte, beq_dec, Int.toNat_natCast, IntKind.signed, IntKind.bits, List.length_map]) | refine And.intro (fun hc => (?_ : AW _ _ _ _)) (fun hc => (?_ : AW _ _ _ _)) | simp (disch := omega) only [go_sem, seval, reduceCtorEq, ↓reduceIte, beq_dec, Int.toNat_natCast, IntKind.signed, IntKind.bits, List.length_map] | (refine And.intro ?_ ?_; focus (first | (intros; omega) | (intros; simp_all; done))) | refine And.intro (?_ : CallAt _ _ _ _ _ _ _ _) ?_ | refine And.intro (?_ : CallAt _ _ _ _ _ _ _ _ ∧ _) ?_ | refine And.intro (?_ : AW _ _ _ _) ?_ | fail))
          · exfalso; omega
          all_goals trace_state
end Go.Proofs.Ytgldpbghbkoolaa

-- P p_15.txt
open Go Go.AL Go.RowKit
namespace Go.Proofs.Ytgldpbghbkoolaa
set_option maxRecDepth 20000
def brB (es : Es) (n k : Nat) : Bool := decide ((ptS es (fun _ => true) n es.length).c < (ptS es (fun i => decide (i ≠ k)) n es.length).c)
def brR (es : Es) (n i : Nat) : List Bool := (List.range i).map (brB es n) ++ List.replicate (es.length - i) false
theorem brR_len (es : Es) (n i : Nat) (h : i ≤ es.length) : (brR es n i).length = es.length := by simp [brR]; omega
theorem brR_set (es : Es) (n i : Nat) (h : i < es.length) : (bR (brR es n i)).set i [CD.B (brB es n i)] = bR (brR es n (i + 1)) := by
  have : (bR (brR es n i)).set i [CD.B (brB es n i)] = bR ((brR es n i).set i (brB es n i)) := by unfold bR; rw [List.map_set]
  rw [this]
  unfold brR
  rw [List.set_append_right _ _ (by simp)]
  simp only [List.length_map, List.length_range, Nat.sub_self]
  obtain ⟨k, hk⟩ : ∃ k, es.length - i = k + 1 := ⟨es.length - i - 1, by omega⟩
  rw [hk, show es.length - (i + 1) = k by omega, List.replicate_succ, List.set_cons_zero, List.range_succ]
  simp
def brL (es : Es) (n : Nat) : List Bool := (List.range es.length).map (brB es n)
theorem brR_end (es : Es) (n : Nat) : brR es n es.length = brL es n := by simp [brR, brL]
theorem brR_zero (es : Es) (n : Nat) : List.replicate es.length [CD.B false] = bR (brR es n 0) := by simp [brR, bR]
set_option maxHeartbeats 4000000 in
theorem n39 (n : Nat) (ids : List Int) (es : Es) (hn : n ≤ 70) (he : EsLt es n) (hel : es.length ≤ 70) (hi : ids.length = es.length) : FnR Try.prog 39 [netAV n ids es] [.own 4 1 (bR (brL es n))] := by
  have g40a := n40a n ids es hn he hel
  have hbz := brR_zero es n
  have hl0 := brR_len es n 0 (by omega)
  refine fn_walk code39 (by simp) ?_
  (repeat' (first | refine NextAt.mk (fun hc => ?_) (fun pre n v post hc hkey => ?_) | refine Sni.mk (fun hc => ?_) ?_ | refine Both.mk ?_ ?_ | refine AW_seq ?_ | refine AW_block ?_ | ((first | refine AW_reg ?_ | refine AW_cond ?_ | refine AW_skip ?_ | refine AW_exit ?_ | refine AW_ret ?_ | refine AW_regD (by kernel_rfl) ?_ | refine AW_regX (by kernel_rfl) ?_ | refine CallAtG.t (Eq.refl true) ?_ | refine CallAtG.f (Eq.refl false) ?_ | refine CallAt.mk _ (g40a ..) (by first | (intro h; cases h; done) | (intro _; repeat' (first | exact List.forall_mem_nil _ | trivial | refine List.forall_mem_cons.2 ⟨?_, ?_⟩)) | (intro _; simp [RV.flatP, CD.flatP, List.length_map, hi, maxLen, hbz, hl0]; done)) ?_ | refine CallAtG.mk _ (fun _ => g40a ..) ?_ | refine CallDS.mk _ (by simp [RV.data]) (fun _ => g40a ..) (by first | (intro h; cases h; done) | (intro _; repeat' (first | exact List.forall_mem_nil _ | trivial | refine List.forall_mem_cons.2 ⟨?_, ?_⟩)) | (intro _; simp [RV.flatP, CD.flatP, List.length_map, hi, maxLen, hbz, hl0]; done)) ?_); try simp (disch := omega) only [go_sem, seval, reduceCtorEq, ↓reduceIte, beq_dec, Int.toNat_natCast, IntKind.signed, IntKind.bits, List.length_map, hi, maxLen, hbz, hl0]) | refine And.intro (fun hc => (?_ : AW _ _ _ _)) (fun hc => (?_ : AW _ _ _ _)) | simp (disch := omega) only [go_sem, seval, reduceCtorEq, ↓reduceIte, beq_dec, Int.toNat_natCast, IntKind.signed, IntKind.bits, List.length_map, hi, maxLen, hbz, hl0] | (refine And.intro ?_ ?_; focus (first | (intros; omega) | (intros; simp_all; done))) | refine And.intro (?_ : CallAt _ _ _ _ _ _ _ _) ?_ | refine And.intro (?_ : CallAt _ _ _ _ _ _ _ _ ∧ _) ?_ | refine And.intro (?_ : AW _ _ _ _) ?_ | fail))
  refine AW_loopK [1, 4, 5, 19] [6, 7, 8, 20, 21, 22, 23, 24, 25, 26, 27, 28, 29, 30, 31, 32, 33, 34, 35] (fun i : Nat => i ≤ es.length) (fun i => [(20, .I i)]) (fun i => [(17, .arr 4 1 (bR (brR es n i)))]) (fun i => es.length - i) 0 (by omega) ?_ ?_
  · simp (disch := omega) only [go_sem, seval, reduceCtorEq, ↓reduceIte, beq_dec, Int.toNat_natCast, IntKind.signed, IntKind.bits, Int.natCast_zero]
  · intro i hi2
    rcases Nat.lt_or_ge i es.length with hil | hil
    · have g40 := FnW.low (n40b n ids es i hn he hel)
      have r5 : rn 1000006 = 6 := rfl
      simp only [netAV, renL, AV.ren, renOb, AO.ren, List.map_cons, List.map_nil, r5] at g40
      have hset := brR_set es n i hil
      have hbl := brR_len es n i (by omega)
      have hge := getD_map (fun b : Bool => [CD.B b]) (brR es n i) i [] (by omega)
      unfold brB at hset
      have p1 := ptS_len es (fun _ => true) n es.length
      have p2 := ptS_len es (fun k => decide (k ≠ i)) n es.length
      (repeat' (first | refine NextAt.mk (fun hc => ?_) (fun pre n v post hc hkey => ?_) | refine Sni.mk (fun hc => ?_) ?_ | refine Both.mk ?_ ?_ | refine AW_seq ?_ | refine AW_block ?_ | ((first | refine AW_reg ?_ | refine AW_cond ?_ | refine AW_skip ?_ | refine AW_exit ?_ | refine AW_ret ?_ | refine AW_regD (by kernel_rfl) ?_ | refine AW_regX (by kernel_rfl) ?_ | refine CallAt.mkW (g40 ..) (by rfl) (by simp (disch := omega) only [go_sem, seval, reduceCtorEq, ↓reduceIte, beq_dec, Int.toNat_natCast, IntKind.signed, IntKind.bits, List.length_map, hbl, hge, List.set_cons_zero, hset, Int.toNat_natCast]) (by rfl) (by rfl) (by first | (intro h; cases h; done) | (intro _; simp [RV.flatP, CD.flatP, flatOb, AO.flatP, List.length_map, hbl, hge, List.set_cons_zero, hset, Int.toNat_natCast]; done)) ?_ | refine CallAtG.t (Eq.refl true) ?_ | refine CallAtG.f (Eq.refl false) ?_); try simp (disch := omega) only [go_sem, seval, reduceCtorEq, ↓reduceIte, beq_dec, Int.toNat_natCast, IntKind.signed, IntKind.bits, List.length_map, hbl, hge, List.set_cons_zero, hset, Int.toNat_natCast]) | refine And.intro (fun hc => (?_ : AW _ _ _ _)) (fun hc => (?_ : AW _ _ _ _)) | simp (disch := omega) only [go_sem, seval, reduceCtorEq, ↓reduceIte, beq_dec, Int.toNat_natCast, IntKind.signed, IntKind.bits, List.length_map, hbl, hge, List.set_cons_zero, hset, Int.toNat_natCast] | (refine And.intro ?_ ?_; focus (first | (intros; omega) | (intros; simp_all; done))) | refine And.intro (?_ : CallAt _ _ _ _ _ _ _ _) ?_ | refine And.intro (?_ : CallAt _ _ _ _ _ _ _ _ ∧ _) ?_ | refine And.intro (?_ : AW _ _ _ _) ?_ | fail))
      · refine .mk (i + 1) (by omega) (by omega) ?_
        simp (disch := omega) only [go_sem, seval, reduceCtorEq, ↓reduceIte, beq_dec, Int.toNat_natCast, IntKind.signed, IntKind.bits, Int.natCast_add, Int.natCast_one]
      · exfalso; omega
    · obtain rfl : i = es.length := by omega
      rw [brR_end]
      (repeat' (first | refine NextAt.mk (fun hc => ?_) (fun pre n v post hc hkey => ?_) | refine Sni.mk (fun hc => ?_) ?_ | refine Both.mk ?_ ?_ | refine AW_seq ?_ | refine AW_block ?_ | ((first | refine AW_reg ?_ | refine AW_cond ?_ | refine AW_skip ?_ | refine AW_exit ?_ | refine AW_ret ?_ | refine AW_regD (by kernel_rfl) ?_ | refine AW_regX (by kernel_rfl) ?_ | refine CallAtG.t (Eq.refl true) ?_ | refine CallAtG.f (Eq.refl false) ?_); try simp (disch := omega) only [go_sem, seval, reduceCtorEq, ↓reduceIte, beq_dec, Int.toNat_natCast, IntKind.signed, IntKind.bits, List.length_map]) | refine And.intro (fun hc => (?_ : AW _ _ _ _)) (fun hc => (?_ : AW _ _ _ _)) | simp (disch := omega) only [go_sem, seval, reduceCtorEq, ↓reduceIte, beq_dec, Int.toNat_natCast, IntKind.signed, IntKind.bits, List.length_map] | (refine And.intro ?_ ?_; focus (first | (intros; omega) | (intros; simp_all; done))) | refine And.intro (?_ : CallAt _ _ _ _ _ _ _ _) ?_ | refine And.intro (?_ : CallAt _ _ _ _ _ _ _ _ ∧ _) ?_ | refine And.intro (?_ : AW _ _ _ _) ?_ | fail))
      · exfalso; omega
/-- the bridges among the first links -/
def brI (es : Es) (n : Nat) (ids : List Int) (i : Nat) : List Int := ((List.range i).filter (brB es n)).map (nth ids)
theorem brI_succ (es : Es) (n : Nat) (ids : List Int) (i : Nat) : brI es n ids (i + 1) = brI es n ids i ++ if brB es n i then [nth ids i] else [] := by
  unfold brI
  rw [List.range_succ, List.filter_append, List.map_append]
  congr 1
  simp only [List.filter_cons, List.filter_nil]
  split <;> rfl
theorem brI_len (es : Es) (n : Nat) (ids : List Int) (i : Nat) : (brI es n ids i).length ≤ i := by
  unfold brI; rw [List.length_map]
  exact Nat.le_trans (List.length_filter_le _ _) (by simp)
def bridgesG (g : Gr) : List Int := brI (esG g) (nG g) (idsG g) g.links.length
set_option maxHeartbeats 4000000 in
theorem n18 (g : Gr) (hv : validG g = true) : FnR Try.prog 18 [g.av] [ORow (bridgesG g), .c (.I 0)] := by
  have g32 := f32 g
  rw [hv] at g32
  have hsm := valid_small hv
  have g34 := n34 g hv
  have hl := esG_len g
  have g39 := n39 (nG g) (idsG g) (esG g) (by unfold nG; omega) (esG_lt hv) (by omega) (by rw [hl]; simp [idsG])
  have hbl : (brL (esG g) (nG g)).length = g.links.length := by simp [brL, hl]
  unfold bridgesG
  refine fn_walk code18 (by simp) ?_
  (repeat' (first | refine NextAt.mk (fun hc => ?_) (fun pre n v post hc hkey => ?_) | refine Sni.mk (fun hc => ?_) ?_ | refine Both.mk ?_ ?_ | refine AW_seq ?_ | refine AW_block ?_ | ((first | refine AW_reg ?_ | refine AW_cond ?_ | refine AW_skip ?_ | refine AW_exit ?_ | refine AW_ret ?_ | refine AW_regD (by kernel_rfl) ?_ | refine AW_regX (by kernel_rfl) ?_ | refine CallAtG.t (Eq.refl true) ?_ | refine CallAtG.f (Eq.refl false) ?_ | refine CallAt.mk _ (g32 ..) (by first | (intro h; cases h; done) | (intro _; repeat' (first | exact List.forall_mem_nil _ | trivial | refine List.forall_mem_cons.2 ⟨?_, ?_⟩)) | (intro _; simp [RV.flatP, CD.flatP, List.length_map, hbl]; done)) ?_ | refine CallAtG.mk _ (fun _ => g32 ..) ?_ | refine CallDS.mk _ (by simp [RV.data]) (fun _ => g32 ..) (by first | (intro h; cases h; done) | (intro _; repeat' (first | exact List.forall_mem_nil _ | trivial | refine List.forall_mem_cons.2 ⟨?_, ?_⟩)) | (intro _; simp [RV.flatP, CD.flatP, List.length_map, hbl]; done)) ?_ | refine CallAt.mk _ (g34 ..) (by first | (intro h; cases h; done) | (intro _; repeat' (first | exact List.forall_mem_nil _ | trivial | refine List.forall_mem_cons.2 ⟨?_, ?_⟩)) | (intro _; simp [RV.flatP, CD.flatP, List.length_map, hbl]; done)) ?_ | refine CallAtG.mk _ (fun _ => g34 ..) ?_ | refine CallDS.mk _ (by simp [RV.data]) (fun _ => g34 ..) (by first | (intro h; cases h; done) | (intro _; repeat' (first | exact List.forall_mem_nil _ | trivial | refine List.forall_mem_cons.2 ⟨?_, ?_⟩)) | (intro _; simp [RV.flatP, CD.flatP, List.length_map, hbl]; done)) ?_ | refine CallAt.mk _ (g39 ..) (by first | (intro h; cases h; done) | (intro _; repeat' (first | exact List.forall_mem_nil _ | trivial | refine List.forall_mem_cons.2 ⟨?_, ?_⟩)) | (intro _; simp [RV.flatP, CD.flatP, List.length_map, hbl]; done)) ?_ | refine CallAtG.mk _ (fun _ => g39 ..) ?_ | refine CallDS.mk _ (by simp [RV.data]) (fun _ => g39 ..) (by first | (intro h; cases h; done) | (intro _; repeat' (first | exact List.forall_mem_nil _ | trivial | refine List.forall_mem_cons.2 ⟨?_, ?_⟩)) | (intro _; simp [RV.flatP, CD.flatP, List.length_map, hbl]; done)) ?_); try simp (disch := omega) only [go_sem, seval, reduceCtorEq, ↓reduceIte, beq_dec, Int.toNat_natCast, IntKind.signed, IntKind.bits, List.length_map, hbl]) | refine And.intro (fun hc => (?_ : AW _ _ _ _)) (fun hc => (?_ : AW _ _ _ _)) | simp (disch := omega) only [go_sem, seval, reduceCtorEq, ↓reduceIte, beq_dec, Int.toNat_natCast, IntKind.signed, IntKind.bits, List.length_map, hbl] | (refine And.intro ?_ ?_; focus (first | (intros; omega) | (intros; simp_all; done))) | refine And.intro (?_ : CallAt _ _ _ _ _ _ _ _) ?_ | refine And.intro (?_ : CallAt _ _ _ _ _ _ _ _ ∧ _) ?_ | refine And.intro (?_ : AW _ _ _ _) ?_ | fail))
  refine AW_nil 5 900 3 1 (by rfl) ?_
  refine AW_loopK [4, 14, 15] [5, 6, 7, 16, 17, 18, 19, 20, 21, 22, 23, 24, 25, 26, 27, 28, 29, 30] (fun i : Nat => i ≤ g.links.length) (fun i => [(16, .I i), (5, .own 900)]) (fun i => [(900, .arr 3 1 (iRow (brI (esG g) (nG g) (idsG g) i)))]) (fun i => g.links.length - i) 0 (by omega) ?_ ?_
  · simp (disch := omega) only [go_sem, seval, reduceCtorEq, ↓reduceIte, beq_dec, Int.toNat_natCast, IntKind.signed, IntKind.bits, Int.natCast_zero, brI, List.range_zero, List.filter_nil, List.map_nil]
  · intro i hi
    have hil := brI_len (esG g) (nG g) (idsG g) i
    rcases Nat.lt_or_ge i g.links.length with hil | hil
    · have hsuc := brI_succ (esG g) (nG g) (idsG g) i
      have hge := getD_map (fun b : Bool => [CD.B b]) (brL (esG g) (nG g)) i [] (by omega)
      have hnb : nth (brL (esG g) (nG g)) i = brB (esG g) (nG g) i := by rw [nth_eq _ i (by omega)]; simp [brL]
      have hid : (idsG g).length = g.links.length := by simp [idsG]
      rw [hnb] at hge
      generalize brI (esG g) (nG g) (idsG g) i = z at *
      cases hb : brB (esG g) (nG g) i with
      | true =>
        rw [hb] at hge hsuc
        (repeat' (first | refine NextAt.mk (fun hc => ?_) (fun pre n v post hc hkey => ?_) | refine Sni.mk (fun hc => ?_) ?_ | refine Both.mk ?_ ?_ | refine AW_seq ?_ | refine AW_block ?_ | ((first | refine AW_reg ?_ | refine AW_cond ?_ | refine AW_skip ?_ | refine AW_exit ?_ | refine AW_ret ?_ | refine AW_regD (by kernel_rfl) ?_ | refine AW_regX (by kernel_rfl) ?_ | refine CallAtG.t (Eq.refl true) ?_ | refine CallAtG.f (Eq.refl false) ?_); try simp (disch := omega) only [go_sem, seval, reduceCtorEq, ↓reduceIte, beq_dec, Int.toNat_natCast, IntKind.signed, IntKind.bits, List.length_map, hbl, hge, hid, getD_map (fun x : Int => [CD.I x]), maxLen]) | refine And.intro (fun hc => (?_ : AW _ _ _ _)) (fun hc => (?_ : AW _ _ _ _)) | simp (disch := omega) only [go_sem, seval, reduceCtorEq, ↓reduceIte, beq_dec, Int.toNat_natCast, IntKind.signed, IntKind.bits, List.length_map, hbl, hge, hid, getD_map (fun x : Int => [CD.I x]), maxLen] | (refine And.intro ?_ ?_; focus (first | (intros; omega) | (intros; simp_all; done))) | refine And.intro (?_ : CallAt _ _ _ _ _ _ _ _) ?_ | refine And.intro (?_ : CallAt _ _ _ _ _ _ _ _ ∧ _) ?_ | refine And.intro (?_ : AW _ _ _ _) ?_ | fail))
        · refine .mk (i + 1) (by omega) (by omega) ?_
          rw [hsuc, if_pos rfl, iRow_app']
          simp (disch := omega) only [go_sem, seval, reduceCtorEq, ↓reduceIte, beq_dec, Int.toNat_natCast, IntKind.signed, IntKind.bits, Int.natCast_add, Int.natCast_one]
        · exfalso; omega
      | false =>
        rw [hb] at hge hsuc
        (repeat' (first | refine NextAt.mk (fun hc => ?_) (fun pre n v post hc hkey => ?_) | refine Sni.mk (fun hc => ?_) ?_ | refine Both.mk ?_ ?_ | refine AW_seq ?_ | refine AW_block ?_ | ((first | refine AW_reg ?_ | refine AW_cond ?_ | refine AW_skip ?_ | refine AW_exit ?_ | refine AW_ret ?_ | refine AW_regD (by kernel_rfl) ?_ | refine AW_regX (by kernel_rfl) ?_ | refine CallAtG.t (Eq.refl true) ?_ | refine CallAtG.f (Eq.refl false) ?_); try simp (disch := omega) only [go_sem, seval, reduceCtorEq, ↓reduceIte, beq_dec, Int.toNat_natCast, IntKind.signed, IntKind.bits, List.length_map, hbl, hge, hid, getD_map (fun x : Int => [CD.I x]), maxLen]) | refine And.intro (fun hc => (?_ : AW _ _ _ _)) (fun hc => (?_ : AW _ _ _ _)) | simp (disch := omega) only [go_sem, seval, reduceCtorEq, ↓reduceIte, beq_dec, Int.toNat_natCast, IntKind.signed, IntKind.bits, List.length_map, hbl, hge, hid, getD_map (fun x : Int => [CD.I x]), maxLen] | (refine And.intro ?_ ?_; focus (first | (intros; omega) | (intros; simp_all; done))) | refine And.intro (?_ : CallAt _ _ _ _ _ _ _ _) ?_ | refine And.intro (?_ : CallAt _ _ _ _ _ _ _ _ ∧ _) ?_ | refine And.intro (?_ : AW _ _ _ _) ?_ | fail))
        · refine .mk (i + 1) (by omega) (by omega) ?_
          rw [hsuc, if_neg (by simp), List.append_nil]
          simp (disch := omega) only [go_sem, seval, reduceCtorEq, ↓reduceIte, beq_dec, Int.toNat_natCast, IntKind.signed, IntKind.bits, Int.natCast_add, Int.natCast_one]
        · exfalso; omega
    · obtain rfl : i = g.links.length := by omega
      (repeat' (first | refine NextAt.mk (fun hc => ?_) (fun pre n v post hc hkey => ?_) | refine Sni.mk (fun hc => ?_) ?_ | refine Both.mk ?_ ?_ | refine AW_seq ?_ | refine AW_block ?_ | ((first | refine AW_reg ?_ | refine AW_cond ?_ | refine AW_skip ?_ | refine AW_exit ?_ | refine AW_ret ?_ | refine AW_regD (by kernel_rfl) ?_ | refine AW_regX (by kernel_rfl) ?_ | refine CallAtG.t (Eq.refl true) ?_ | refine CallAtG.f (Eq.refl false) ?_); try simp (disch := omega) only [go_sem, seval, reduceCtorEq, ↓reduceIte, beq_dec, Int.toNat_natCast, IntKind.signed, IntKind.bits, List.length_map]) | refine And.intro (fun hc => (?_ : AW _ _ _ _)) (fun hc => (?_ : AW _ _ _ _)) | simp (disch := omega) only [go_sem, seval, reduceCtorEq, ↓reduceIte, beq_dec, Int.toNat_natCast, IntKind.signed, IntKind.bits, List.length_map] | (refine And.intro ?_ ?_; focus (first | (intros; omega) | (intros; simp_all; done))) | refine And.intro (?_ : CallAt _ _ _ _ _ _ _ _) ?_ | refine And.intro (?_ : CallAt _ _ _ _ _ _ _ _ ∧ _) ?_ | refine And.intro (?_ : AW _ _ _ _) ?_ | fail))
      · exfalso; omega
      all_goals trace_state
/-! ### awake -/
theorem n10 (g : Gr) : FnR Try.prog 10 [g.av] [.c (.B (decide (g.obv.length ≤ 35 ∧ g.rev.length ≤ 35 ∧ g.links.length ≤ 16)))] := by
  refine fn_walk code10 (by simp) ?_
  (repeat' (first | refine NextAt.mk (fun hc => ?_) (fun pre n v post hc hkey => ?_) | refine Sni.mk (fun hc => ?_) ?_ | refine Both.mk ?_ ?_ | refine AW_seq ?_ | refine AW_block ?_ | ((first | refine AW_reg ?_ | refine AW_cond ?_ | refine AW_skip ?_ | refine AW_exit ?_ | refine AW_ret ?_ | refine AW_regD (by kernel_rfl) ?_ | refine AW_regX (by kernel_rfl) ?_ | refine CallAtG.t (Eq.refl true) ?_ | refine CallAtG.f (Eq.refl false) ?_); try simp (disch := omega) only [go_sem, seval, reduceCtorEq, ↓reduceIte, beq_dec, Int.toNat_natCast, IntKind.signed, IntKind.bits]) | refine And.intro (fun hc => (?_ : AW _ _ _ _)) (fun hc => (?_ : AW _ _ _ _)) | simp (disch := omega) only [go_sem, seval, reduceCtorEq, ↓reduceIte, beq_dec, Int.toNat_natCast, IntKind.signed, IntKind.bits] | (refine And.intro ?_ ?_; focus (first | (intros; omega) | (intros; simp_all; done))) | refine And.intro (?_ : CallAt _ _ _ _ _ _ _ _) ?_ | refine And.intro (?_ : CallAt _ _ _ _ _ _ _ _ ∧ _) ?_ | refine And.intro (?_ : AW _ _ _ _) ?_ | fail))
  rw [Bool.eq_iff_iff]; simp only [Bool.and_eq_true, decide_eq_true_eq]; omega
theorem holdret {Q : Exit → St → Prop} {σ : St} (h : Hold (AW Try.prog .ret Q σ)) : AW Try.prog .ret Q σ := h.out
def ringG : Gr := ⟨[1, 2], [1, 2, 3], [⟨1, 1, 1⟩, ⟨2, 2, 1⟩, ⟨3, 1, 2⟩, ⟨4, 2, 2⟩, ⟨5, 2, 3⟩]⟩
theorem n32 : FnR Try.prog 32 [] [.agg [Row ringG.obv, Row ringG.rev, LL ringG.links]] := by
  refine fn_walk code32 (by simp) ?_
  (repeat' (first | (with_reducible refine holdret ?_; try simp (disch := omega) only [go_sem, seval, reduceCtorEq, ↓reduceIte, beq_dec, Int.toNat_natCast, IntKind.signed, IntKind.bits, List.map_cons, List.map_nil]) | refine NextAt.mk (fun hc => ?_) (fun pre n v post hc hkey => ?_) | refine Sni.mk (fun hc => ?_) ?_ | refine Both.mk ?_ ?_ | refine AW_seq ?_ | refine AW_block ?_ | ((first | refine AW_reg ?_ | refine AW_cond ?_ | refine AW_skip ?_ | refine AW_exit ?_ | refine AW_ret ?_ | refine AW_regD (by kernel_rfl) ?_ | refine AW_regX (by kernel_rfl) ?_ | refine CallAtG.t (Eq.refl true) ?_ | refine CallAtG.f (Eq.refl false) ?_); try simp (disch := omega) only [go_sem, seval, reduceCtorEq, ↓reduceIte, beq_dec, Int.toNat_natCast, IntKind.signed, IntKind.bits, List.map_cons, List.map_nil]) | refine And.intro (fun hc => (?_ : AW _ _ _ _)) (fun hc => (?_ : AW _ _ _ _)) | simp (disch := omega) only [go_sem, seval, reduceCtorEq, ↓reduceIte, beq_dec, Int.toNat_natCast, IntKind.signed, IntKind.bits, List.map_cons, List.map_nil] | (refine And.intro ?_ ?_; focus (first | (intros; omega) | (intros; simp_all; done))) | refine And.intro (?_ : CallAt _ _ _ _ _ _ _ _) ?_ | refine And.intro (?_ : CallAt _ _ _ _ _ _ _ _ ∧ _) ?_ | refine And.intro (?_ : AW _ _ _ _) ?_ | fail))
  refine ⟨AW_frz [1, 2, 8] ?_⟩
  (repeat' (first | refine NextAt.mk (fun hc => ?_) (fun pre n v post hc hkey => ?_) | refine Sni.mk (fun hc => ?_) ?_ | refine Both.mk ?_ ?_ | refine AW_seq ?_ | refine AW_block ?_ | ((first | refine AW_reg ?_ | refine AW_cond ?_ | refine AW_skip ?_ | refine AW_exit ?_ | refine AW_ret ?_ | refine AW_regD (by kernel_rfl) ?_ | refine AW_regX (by kernel_rfl) ?_ | refine CallAtG.t (Eq.refl true) ?_ | refine CallAtG.f (Eq.refl false) ?_); try simp (disch := omega) only [go_sem, seval, reduceCtorEq, ↓reduceIte, beq_dec, Int.toNat_natCast, IntKind.signed, IntKind.bits]) | refine And.intro (fun hc => (?_ : AW _ _ _ _)) (fun hc => (?_ : AW _ _ _ _)) | simp (disch := omega) only [go_sem, seval, reduceCtorEq, ↓reduceIte, beq_dec, Int.toNat_natCast, IntKind.signed, IntKind.bits] | (refine And.intro ?_ ?_; focus (first | (intros; omega) | (intros; simp_all; done))) | refine And.intro (?_ : CallAt _ _ _ _ _ _ _ _) ?_ | refine And.intro (?_ : CallAt _ _ _ _ _ _ _ _ ∧ _) ?_ | refine And.intro (?_ : AW _ _ _ _) ?_ | fail))
  rfl
theorem n9 : FnR Try.prog 9 [] [.c (.B true)] := by
  have hv : validG ringG = true := by decide +kernel
  have g18 := n18 ringG hv
  have g11 := n11 ringG ⟨0, 1⟩ ⟨0, 2⟩
  have g1 := f16 [5] [5]
  have e1 : bridgesG ringG = [5] := by decide +kernel
  have e2 : flowE ringG ⟨0, 1⟩ ⟨0, 2⟩ = 0 := by decide +kernel
  have e3 : flowV ringG ⟨0, 1⟩ ⟨0, 2⟩ = 2 := by decide +kernel
  rw [e1] at g18
  rw [e2, e3] at g11
  simp only [List.map_cons, List.map_nil] at g18 g11 g1
  have g32 := n32
  clear hv e1 e2 e3
  generalize hG : ringG = G at *
  refine fn_walk code9 (by simp) ?_
  (repeat' (first | refine NextAt.mk (fun hc => ?_) (fun pre n v post hc hkey => ?_) | refine Sni.mk (fun hc => ?_) ?_ | refine Both.mk ?_ ?_ | refine AW_seq ?_ | refine AW_block ?_ | ((first | refine AW_reg ?_ | refine AW_cond ?_ | refine AW_skip ?_ | refine AW_exit ?_ | refine AW_ret ?_ | refine AW_regD (by kernel_rfl) ?_ | refine AW_regX (by kernel_rfl) ?_ | refine CallAtG.t (Eq.refl true) ?_ | refine CallAtG.f (Eq.refl false) ?_ | refine CallAt.mk _ (g32 ..) (by first | (intro h; cases h; done) | (intro _; repeat' (first | exact List.forall_mem_nil _ | trivial | refine List.forall_mem_cons.2 ⟨?_, ?_⟩)) | (intro _; simp [RV.flatP, CD.flatP, List.map_cons, List.map_nil]; done)) ?_ | refine CallAtG.mk _ (fun _ => g32 ..) ?_ | refine CallDS.mk _ (by simp [RV.data]) (fun _ => g32 ..) (by first | (intro h; cases h; done) | (intro _; repeat' (first | exact List.forall_mem_nil _ | trivial | refine List.forall_mem_cons.2 ⟨?_, ?_⟩)) | (intro _; simp [RV.flatP, CD.flatP, List.map_cons, List.map_nil]; done)) ?_ | refine CallAt.mk _ (g18 ..) (by first | (intro h; cases h; done) | (intro _; repeat' (first | exact List.forall_mem_nil _ | trivial | refine List.forall_mem_cons.2 ⟨?_, ?_⟩)) | (intro _; simp [RV.flatP, CD.flatP, List.map_cons, List.map_nil]; done)) ?_ | refine CallAtG.mk _ (fun _ => g18 ..) ?_ | refine CallDS.mk _ (by simp [RV.data]) (fun _ => g18 ..) (by first | (intro h; cases h; done) | (intro _; repeat' (first | exact List.forall_mem_nil _ | trivial | refine List.forall_mem_cons.2 ⟨?_, ?_⟩)) | (intro _; simp [RV.flatP, CD.flatP, List.map_cons, List.map_nil]; done)) ?_ | refine CallAt.mk _ (g11 ..) (by first | (intro h; cases h; done) | (intro _; repeat' (first | exact List.forall_mem_nil _ | trivial | refine List.forall_mem_cons.2 ⟨?_, ?_⟩)) | (intro _; simp [RV.flatP, CD.flatP, List.map_cons, List.map_nil]; done)) ?_ | refine CallAtG.mk _ (fun _ => g11 ..) ?_ | refine CallDS.mk _ (by simp [RV.data]) (fun _ => g11 ..) (by first | (intro h; cases h; done) | (intro _; repeat' (first | exact List.forall_mem_nil _ | trivial | refine List.forall_mem_cons.2 ⟨?_, ?_⟩)) | (intro _; simp [RV.flatP, CD.flatP, List.map_cons, List.map_nil]; done)) ?_ | refine CallAt.mk _ (g1 ..) (by first | (intro h; cases h; done) | (intro _; repeat' (first | exact List.forall_mem_nil _ | trivial | refine List.forall_mem_cons.2 ⟨?_, ?_⟩)) | (intro _; simp [RV.flatP, CD.flatP, List.map_cons, List.map_nil]; done)) ?_ | refine CallAtG.mk _ (fun _ => g1 ..) ?_ | refine CallDS.mk _ (by simp [RV.data]) (fun _ => g1 ..) (by first | (intro h; cases h; done) | (intro _; repeat' (first | exact List.forall_mem_nil _ | trivial | refine List.forall_mem_cons.2 ⟨?_, ?_⟩)) | (intro _; simp [RV.flatP, CD.flatP, List.map_cons, List.map_nil]; done)) ?_); try simp (disch := omega) only [go_sem, seval, reduceCtorEq, ↓reduceIte, beq_dec, Int.toNat_natCast, IntKind.signed, IntKind.bits, List.map_cons, List.map_nil]) | refine And.intro (fun hc => (?_ : AW _ _ _ _)) (fun hc => (?_ : AW _ _ _ _)) | simp (disch := omega) only [go_sem, seval, reduceCtorEq, ↓reduceIte, beq_dec, Int.toNat_natCast, IntKind.signed, IntKind.bits, List.map_cons, List.map_nil] | (refine And.intro ?_ ?_; focus (first | (intros; omega) | (intros; simp_all; done))) | refine And.intro (?_ : CallAt _ _ _ _ _ _ _ _) ?_ | refine And.intro (?_ : CallAt _ _ _ _ _ _ _ _ ∧ _) ?_ | refine And.intro (?_ : AW _ _ _ _) ?_ | fail))
end Go.Proofs.Ytgldpbghbkoolaa

-- P p_15.txt
open Go Go.AL Go.RowKit
namespace Go.Proofs.Ytgldpbghbkoolaa
set_option maxRecDepth 20000
/- coinage/coinagelaw15.BridgeThird -/
/-! ### the least cut of a valid graph -/
theorem flowE_zero {g : Gr} {a b : Die} : flowE g a b = 0 ↔ validG g = true ∧ a ∈ diesG g ∧ b ∈ diesG g ∧ a ≠ b := by
  unfold flowE
  cases hv : validG g with
  | false => simp
  | true =>
    rw [if_pos rfl, ← okV_iff]
    cases hok : okV g a b <;> simp
theorem flowV_err {g : Gr} {a b : Die} (h : flowE g a b ≠ 0) : flowV g a b = 0 := by unfold flowV; rw [if_neg h]
theorem flow_mc {g : Gr} (gone : List Bool) {a b : Die} (hv : validG g = true) (ha : a ∈ diesG g) (hb : b ∈ diesG g) (hab : a ≠ b) : IsMC (esG g) gone (plN (diesG g) a) (plN (diesG g) b) (flowM g gone a b) :=
  mfl_mc (esG_lt hv) (by have := (plN_mem ha).1; have := dies_len g; unfold nG; omega) (fun e => hab ((plc_ne ha hb).1 e))
end Go.Proofs.Ytgldpbghbkoolaa

