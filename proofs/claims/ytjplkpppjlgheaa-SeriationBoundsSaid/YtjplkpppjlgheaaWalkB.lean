/-
  Lemmas for the proof: no statement of its own.
-/
import Derived.Test.YtjplkpppjlgheaaWalkA
import Derived.Test.YtjplkpppjlgheaaAlD
set_option linter.unusedVariables false
set_option linter.unusedSimpArgs false
-- P p_30.txt
open Go Go.AL Go.RowKit
namespace Go.Proofs.Ytjplkpppjlgheaa
set_option maxRecDepth 20000

theorem vals1 {w : World} {vs : List Value} {a : Int} (hl : vs.length = 1) (h : ∀ (j : Nat) (d : CD) (v : Value), [AV.I a][j]? = some (.c d) → vs[j]? = some v → d.flatP → Rd w (fun _ => True) d v) : vs = [.int .i64 a] := by
  match vs, hl with
  | [v], _ =>
    have := h 0 _ v rfl rfl trivial
    cases this; rfl
theorem vals2 {w : World} {vs : List Value} {a b : Int} (hl : vs.length = 2) (h : ∀ (j : Nat) (d : CD) (v : Value), [AV.I a, AV.I b][j]? = some (.c d) → vs[j]? = some v → d.flatP → Rd w (fun _ => True) d v) : vs = [.int .i64 a, .int .i64 b] := by
  match vs, hl with
  | [v, u], _ =>
    have h1 := h 0 _ v rfl rfl trivial
    have h2 := h 1 _ u rfl rfl trivial
    cases h1; cases h2; rfl
def wo (l : List Int) (i : Nat) : List Int := l.take i ++ l.drop (i + 1)
theorem inK_zero : inK .i64 0 := by unfold inK; decide
theorem toNat_succ (i : Nat) : ((i : Int) + 1).toNat = i + 1 := by omega
end Go.Proofs.Ytjplkpppjlgheaa

-- P p_30.txt
open Go Go.AL Go.RowKit
namespace Go.Proofs.Ytjplkpppjlgheaa
set_option maxRecDepth 20000

/-! ### the walk over the orders -/
def fitsB (t : List (List Int)) (left : List Int) (c : Int) (k : Nat) : Bool := decide (∀ i, i < k → c ∉ nth t i → ¬ (0 < nth left i ∧ nth left i < (nth t i).length))
def nextL (t : List (List Int)) (left : List Int) (c : Int) (k : Nat) : List Int := (List.range left.length).map fun j => if j < k ∧ c ∈ nth t j then nth left j - 1 else nth left j
theorem nextL_len (t : List (List Int)) (left : List Int) (c : Int) (k : Nat) : (nextL t left c k).length = left.length := by simp [nextL]
theorem nextL_nth (t : List (List Int)) (left : List Int) (c : Int) (k j : Nat) (h : j < left.length) : nth (nextL t left c k) j = if j < k ∧ c ∈ nth t j then nth left j - 1 else nth left j := by
  rw [nth_eq _ j (by rw [nextL_len]; exact h)]
  simp [nextL]
theorem nextL_zero (t : List (List Int)) (left : List Int) (c : Int) : nextL t left c 0 = left := by
  refine nth_ext (nextL_len ..) fun j hj => ?_
  rw [nextL_nth t left c 0 j (by rw [nextL_len] at hj; exact hj)]
  simp
theorem nextL_in (t : List (List Int)) (left : List Int) (c : Int) (k : Nat) (hk : k < left.length) (h : c ∈ nth t k) : nextL t left c (k + 1) = (nextL t left c k).set k (nth left k - 1) := by
  refine List.ext_getElem (by simp [nextL]) fun j h1 h2 => ?_
  have hj : j < left.length := by simpa [nextL] using h1
  rw [List.getElem_set]
  simp only [nextL, List.getElem_map, List.getElem_range]
  by_cases e : k = j
  · subst e; simp [h]
  · rw [if_neg e]
    have : j < k + 1 ↔ j < k := by omega
    simp [this]
theorem nextL_out (t : List (List Int)) (left : List Int) (c : Int) (k : Nat) (h : c ∉ nth t k) : nextL t left c (k + 1) = nextL t left c k := by
  unfold nextL
  refine List.map_congr_left fun j _ => ?_
  by_cases e : j = k
  · subst e; simp [h]
  · have : j < k + 1 ↔ j < k := by omega
    simp [this]
theorem fitsB_succ (t : List (List Int)) (left : List Int) (c : Int) (k : Nat) : fitsB t left c (k + 1) = (fitsB t left c k && (decide (c ∈ nth t k) || !(decide (0 < nth left k) && decide (nth left k < (nth t k).length)))) := by
  unfold fitsB
  rw [Bool.eq_iff_iff]
  simp only [decide_eq_true_eq, Bool.and_eq_true, Bool.or_eq_true, Bool.not_eq_true', Bool.and_eq_false_iff, decide_eq_false_iff_not]
  constructor
  · intro h
    refine ⟨fun i hi => h i (by omega), ?_⟩
    have := h k (by omega)
    by_cases hc : c ∈ nth t k
    · exact .inl hc
    · exact .inr (by have := this hc; omega)
  · rintro ⟨h1, h2⟩ i hi hc
    rcases Nat.lt_succ_iff_lt_or_eq.1 hi with h' | rfl
    · exact h1 i h' hc
    · rcases h2 with h2 | h2
      · exact absurd h2 hc
      · omega

/-- the orders that go on from some columns -/
def walks (n : Nat) (t : List (List Int)) : Nat → List Int → List Int → List (List Int)
  | 0, b, _ => [b]
  | k + 1, b, left => (List.range n).flatMap fun (c : Nat) => if (c : Int) ∈ b ∨ fitsB t left c t.length = false then [] else walks n t k (b ++ [(c : Int)]) (nextL t left c t.length)
def br (n : Nat) (t : List (List Int)) (k : Nat) (b left : List Int) (c : Nat) : List (List Int) := if (c : Int) ∈ b ∨ fitsB t left c t.length = false then [] else walks n t k (b ++ [(c : Int)]) (nextL t left c t.length)
theorem walks_succ (n : Nat) (t : List (List Int)) (k : Nat) (b left : List Int) : walks n t (k + 1) b left = (List.range n).flatMap (br n t k b left) := rfl
def fo : List (List Int) → CD
  | [] => .nil
  | o :: _ => Row o
theorem flatMap_first {f : Nat → List (List Int)} {n c : Nat} (hc : c < n) (h : ∀ j, j < c → f j = []) (hne : f c ≠ []) : fo ((List.range n).flatMap f) = fo (f c) ∧ ((List.range n).flatMap f).isEmpty = false := by
  have e : List.range n = List.range c ++ c :: (List.range' (c + 1) (n - c - 1)) := by
    have h1 : c :: List.range' (c + 1) (n - c - 1) = List.range' c (n - c) := by
      rw [show n - c = (n - c - 1) + 1 by omega, List.range'_succ]; rfl
    rw [h1, List.range_eq_range', List.range_eq_range']
    have := List.range'_append_1 (s := 0) (m := c) (n := n - c)
    simp only [Nat.zero_add] at this
    rw [this]; congr 1; omega
  have h0 : (List.range c).flatMap f = [] := by
    rw [List.flatMap_eq_nil_iff]
    intro j hj
    exact h j (List.mem_range.1 hj)
  rw [e, List.flatMap_append, h0, List.nil_append, List.flatMap_cons]
  cases hf : f c with
  | nil => exact absurd hf hne
  | cons o r => exact ⟨rfl, rfl⟩
theorem f99 (d a : CD) (b : Bool) : FnW Try.prog 46 [.c d, .ptr 1000006 0, .ptr 1000007 0] [(1000006, .box 25 [.c a]), (1000007, .box 4 [.B b])] [.c (.B false)] [(1000006, .box 25 [.c d]), (1000007, .box 4 [.B true])] [1000006, 1000007] := by
  refine fn_walkW code46 (by simp) (by rfl) ?_
  (repeat' (first | refine Sni.mk (fun hc => ?_) ?_ | refine AW_seq ?_ | refine AW_block ?_ | ((first | refine AW_reg ?_ | refine AW_cond ?_ | refine AW_skip ?_ | refine AW_exit ?_ | refine AW_ret ?_ | refine AW_regD (by kernel_rfl) ?_ | refine AW_regX (by kernel_rfl) ?_ | refine CallAtG.t (Eq.refl true) ?_ | refine CallAtG.f (Eq.refl false) ?_); try simp (disch := omega) only [go_sem, Nat.reduceLT, Nat.reduceAdd, Nat.reduceSub, Nat.reduceMul, Nat.reduceBEq, Nat.reduceEqDiff, Nat.reduceLeDiff, reduceCtorEq, ↓reduceIte, beq_dec, Int.reduceToNat, Int.reduceLT, Int.reduceLE, Int.reduceAdd, Int.reduceSub, Int.reduceMul, Int.reduceEq, Int.reduceNeg, Int.reduceNe, Int.toNat_natCast, IntKind.signed, IntKind.bits, Int.reducePow, Nat.reducePow]) | refine And.intro (fun hc => (?_ : AW _ _ _ _)) (fun hc => (?_ : AW _ _ _ _)) | simp (disch := omega) only [go_sem, Nat.reduceLT, Nat.reduceAdd, Nat.reduceSub, Nat.reduceMul, Nat.reduceBEq, Nat.reduceEqDiff, Nat.reduceLeDiff, reduceCtorEq, ↓reduceIte, beq_dec, Int.reduceToNat, Int.reduceLT, Int.reduceLE, Int.reduceAdd, Int.reduceSub, Int.reduceMul, Int.reduceEq, Int.reduceNeg, Int.reduceNe, Int.toNat_natCast, IntKind.signed, IntKind.bits, Int.reducePow, Nat.reducePow] | (refine And.intro ?_ ?_; focus (first | (intros; omega) | (intros; simp_all; done))) | refine And.intro (?_ : CallAt _ _ _ _ _ _ _ _) ?_ | fail))
abbrev vF : AV := .fn 46 [.ptr 1000006 0, .ptr 1000007 0]
structure Wok (n k : Nat) (t : List (List Int)) (b left : List Int) : Prop where
  hb : b.length + k = n
  hn : n ≤ 7
  ht : t.length ≤ 16
  hr : ∀ i, i < t.length → (nth t i).length ≤ 1000
  hl : left.length = t.length
  hv : ∀ i, i < t.length → (k : Int) - 1000 ≤ nth left i ∧ nth left i ≤ 1000
set_option maxHeartbeats 4000000 in
theorem f130F (n : Nat) (t : List (List Int)) : ∀ (k : Nat) (b left : List Int), Wok n k t b left → FnW Try.prog 49 [.I n, .c (Tab t), .c (Row b), .c (Row left), vF] [(1000006, .box 25 [.c .nil]), (1000007, .box 4 [.B false])]
    [.c (.B (walks n t k b left).isEmpty)] [(1000006, .box 25 [.c (fo (walks n t k b left))]), (1000007, .box 4 [.B (!(walks n t k b left).isEmpty)])] [1000006, 1000007]
  | 0, b, left, ⟨hb, hn, ht, hr, hl, hv⟩ => by
    have g99 := f99 (Row b) .nil false
    refine fn_walkW code49 (by simp) (by rfl) ?_
    (repeat' (first | refine Sni.mk (fun hc => ?_) ?_ | refine AW_seq ?_ | refine AW_block ?_ | ((first | refine AW_reg ?_ | refine AW_cond ?_ | refine AW_skip ?_ | refine AW_exit ?_ | refine AW_ret ?_ | refine AW_regD (by kernel_rfl) ?_ | refine AW_regX (by kernel_rfl) ?_ | refine CallAt.mkW (g99 ..) (by rfl) (by simp (disch := omega) only [go_sem, Nat.reduceLT, Nat.reduceAdd, Nat.reduceSub, Nat.reduceMul, Nat.reduceBEq, Nat.reduceEqDiff, Nat.reduceLeDiff, reduceCtorEq, ↓reduceIte, beq_dec, Int.reduceToNat, Int.reduceLT, Int.reduceLE, Int.reduceAdd, Int.reduceSub, Int.reduceMul, Int.reduceEq, Int.reduceNeg, Int.reduceNe, Int.toNat_natCast, IntKind.signed, IntKind.bits, Int.reducePow, Nat.reducePow]) (by rfl) (by rfl) (by first | (intro h; cases h; done) | (intro _; simp [RV.flatP, CD.flatP, flatOb, AO.flatP]; done)) ?_ | refine CallAtG.t (Eq.refl true) ?_ | refine CallAtG.f (Eq.refl false) ?_); try simp (disch := omega) only [go_sem, Nat.reduceLT, Nat.reduceAdd, Nat.reduceSub, Nat.reduceMul, Nat.reduceBEq, Nat.reduceEqDiff, Nat.reduceLeDiff, reduceCtorEq, ↓reduceIte, beq_dec, Int.reduceToNat, Int.reduceLT, Int.reduceLE, Int.reduceAdd, Int.reduceSub, Int.reduceMul, Int.reduceEq, Int.reduceNeg, Int.reduceNe, Int.toNat_natCast, IntKind.signed, IntKind.bits, Int.reducePow, Nat.reducePow]) | refine And.intro (fun hc => (?_ : AW _ _ _ _)) (fun hc => (?_ : AW _ _ _ _)) | simp (disch := omega) only [go_sem, Nat.reduceLT, Nat.reduceAdd, Nat.reduceSub, Nat.reduceMul, Nat.reduceBEq, Nat.reduceEqDiff, Nat.reduceLeDiff, reduceCtorEq, ↓reduceIte, beq_dec, Int.reduceToNat, Int.reduceLT, Int.reduceLE, Int.reduceAdd, Int.reduceSub, Int.reduceMul, Int.reduceEq, Int.reduceNeg, Int.reduceNe, Int.toNat_natCast, IntKind.signed, IntKind.bits, Int.reducePow, Nat.reducePow] | (refine And.intro ?_ ?_; focus (first | (intros; omega) | (intros; simp_all; done))) | refine And.intro (?_ : CallAt _ _ _ _ _ _ _ _) ?_ | fail))
    · exact ⟨rfl, rfl, rfl⟩
    · omega
  | k + 1, b, left, ⟨hb, hn, ht, hr, hl, hv⟩ => by
    have ih := f130F n t k
    have g96 := f96 left (by omega)
    have g96b := f96 b (by omega)
    refine fn_walkW code49 (by simp) (by rfl) ?_
    (repeat' (first | refine Sni.mk (fun hc => ?_) ?_ | refine AW_seq ?_ | refine AW_block ?_ | ((first | refine AW_reg ?_ | refine AW_cond ?_ | refine AW_skip ?_ | refine AW_exit ?_ | refine AW_ret ?_ | refine AW_regD (by kernel_rfl) ?_ | refine AW_regX (by kernel_rfl) ?_ | refine CallAtG.t (Eq.refl true) ?_ | refine CallAtG.f (Eq.refl false) ?_); try simp (disch := omega) only [go_sem, Nat.reduceLT, Nat.reduceAdd, Nat.reduceSub, Nat.reduceMul, Nat.reduceBEq, Nat.reduceEqDiff, Nat.reduceLeDiff, reduceCtorEq, ↓reduceIte, beq_dec, Int.reduceToNat, Int.reduceLT, Int.reduceLE, Int.reduceAdd, Int.reduceSub, Int.reduceMul, Int.reduceEq, Int.reduceNeg, Int.reduceNe, Int.toNat_natCast, IntKind.signed, IntKind.bits, Int.reducePow, Nat.reducePow]) | refine And.intro (fun hc => (?_ : AW _ _ _ _)) (fun hc => (?_ : AW _ _ _ _)) | simp (disch := omega) only [go_sem, Nat.reduceLT, Nat.reduceAdd, Nat.reduceSub, Nat.reduceMul, Nat.reduceBEq, Nat.reduceEqDiff, Nat.reduceLeDiff, reduceCtorEq, ↓reduceIte, beq_dec, Int.reduceToNat, Int.reduceLT, Int.reduceLE, Int.reduceAdd, Int.reduceSub, Int.reduceMul, Int.reduceEq, Int.reduceNeg, Int.reduceNe, Int.toNat_natCast, IntKind.signed, IntKind.bits, Int.reducePow, Nat.reducePow] | (refine And.intro ?_ ?_; focus (first | (intros; omega) | (intros; simp_all; done))) | refine And.intro (?_ : CallAt _ _ _ _ _ _ _ _) ?_ | fail))
    · omega
    rw [walks_succ]
    refine AW_loopK [0, 1, 2, 3, 4, 23] [10, 11, 12, 13, 14, 15, 24, 25, 26, 27, 28, 29, 30, 31, 32, 33, 34, 35, 36, 37, 38, 39, 40, 41, 42, 43, 44, 45, 46, 47, 48, 49, 50, 51, 52, 53, 54, 55, 56, 57, 58, 59, 60, 61, 62, 63, 64, 65, 66, 67, 68, 69, 70, 71, 72, 73, 74, 75, 76, 77] (fun c : Nat => c ≤ n ∧ ∀ j, j < c → br n t k b left j = []) (fun c => [(24, .I c)]) (fun _ => []) (fun c => n - c) 0 ⟨by omega, by omega⟩ ?_ ?_
    · simp (disch := omega) only [go_sem, Nat.reduceLT, Nat.reduceAdd, Nat.reduceSub, Nat.reduceMul, Nat.reduceBEq, Nat.reduceEqDiff, Nat.reduceLeDiff, reduceCtorEq, ↓reduceIte, beq_dec, Int.reduceToNat, Int.reduceLT, Int.reduceLE, Int.reduceAdd, Int.reduceSub, Int.reduceMul, Int.reduceEq, Int.reduceNeg, Int.reduceNe, Int.toNat_natCast, IntKind.signed, IntKind.bits, Int.reducePow, Nat.reducePow, Int.natCast_zero]
    · rintro c ⟨hc, hbr⟩
      (repeat' (first | refine Sni.mk (fun hc => ?_) ?_ | refine AW_seq ?_ | refine AW_block ?_ | ((first | refine AW_reg ?_ | refine AW_cond ?_ | refine AW_skip ?_ | refine AW_exit ?_ | refine AW_ret ?_ | refine AW_regD (by kernel_rfl) ?_ | refine AW_regX (by kernel_rfl) ?_ | refine CallAtG.t (Eq.refl true) ?_ | refine CallAtG.f (Eq.refl false) ?_ | refine CallAt.mk _ (f116 ..) (by first | (intro h; cases h; done) | (intro _; repeat' (first | exact List.forall_mem_nil _ | trivial | refine List.forall_mem_cons.2 ⟨?_, ?_⟩)) | (intro _; simp [RV.flatP, CD.flatP]; done)) ?_ | refine CallAtG.mk _ (fun _ => f116 ..) ?_ | refine CallDS.mk _ (by simp [RV.data]) (fun _ => f116 ..) (by first | (intro h; cases h; done) | (intro _; repeat' (first | exact List.forall_mem_nil _ | trivial | refine List.forall_mem_cons.2 ⟨?_, ?_⟩)) | (intro _; simp [RV.flatP, CD.flatP]; done)) ?_ | refine CallAt.mk _ (g96 ..) (by first | (intro h; cases h; done) | (intro _; repeat' (first | exact List.forall_mem_nil _ | trivial | refine List.forall_mem_cons.2 ⟨?_, ?_⟩)) | (intro _; simp [RV.flatP, CD.flatP]; done)) ?_ | refine CallAtG.mk _ (fun _ => g96 ..) ?_ | refine CallDS.mk _ (by simp [RV.data]) (fun _ => g96 ..) (by first | (intro h; cases h; done) | (intro _; repeat' (first | exact List.forall_mem_nil _ | trivial | refine List.forall_mem_cons.2 ⟨?_, ?_⟩)) | (intro _; simp [RV.flatP, CD.flatP]; done)) ?_); try simp (disch := omega) only [go_sem, Nat.reduceLT, Nat.reduceAdd, Nat.reduceSub, Nat.reduceMul, Nat.reduceBEq, Nat.reduceEqDiff, Nat.reduceLeDiff, reduceCtorEq, ↓reduceIte, beq_dec, Int.reduceToNat, Int.reduceLT, Int.reduceLE, Int.reduceAdd, Int.reduceSub, Int.reduceMul, Int.reduceEq, Int.reduceNeg, Int.reduceNe, Int.toNat_natCast, IntKind.signed, IntKind.bits, Int.reducePow, Nat.reducePow]) | refine And.intro (fun hc => (?_ : AW _ _ _ _)) (fun hc => (?_ : AW _ _ _ _)) | simp (disch := omega) only [go_sem, Nat.reduceLT, Nat.reduceAdd, Nat.reduceSub, Nat.reduceMul, Nat.reduceBEq, Nat.reduceEqDiff, Nat.reduceLeDiff, reduceCtorEq, ↓reduceIte, beq_dec, Int.reduceToNat, Int.reduceLT, Int.reduceLE, Int.reduceAdd, Int.reduceSub, Int.reduceMul, Int.reduceEq, Int.reduceNeg, Int.reduceNe, Int.toNat_natCast, IntKind.signed, IntKind.bits, Int.reducePow, Nat.reducePow] | (refine And.intro ?_ ?_; focus (first | (intros; omega) | (intros; simp_all; done))) | refine And.intro (?_ : CallAt _ _ _ _ _ _ _ _) ?_ | fail))
      · -- the column stands already
        refine .mk (c + 1) ⟨by omega, step_lt hbr (by unfold br; rw [if_pos (.inl (by assumption))])⟩ (by omega) ?_
        simp (disch := omega) only [go_sem, Nat.reduceLT, Nat.reduceAdd, Nat.reduceSub, Nat.reduceMul, Nat.reduceBEq, Nat.reduceEqDiff, Nat.reduceLeDiff, reduceCtorEq, ↓reduceIte, beq_dec, Int.reduceToNat, Int.reduceLT, Int.reduceLE, Int.reduceAdd, Int.reduceSub, Int.reduceMul, Int.reduceEq, Int.reduceNeg, Int.reduceNe, Int.toNat_natCast, IntKind.signed, IntKind.bits, Int.reducePow, Nat.reducePow, Int.natCast_add, Int.natCast_one]
      · refine AW_loopK [0, 1, 2, 3, 4, 11, 12, 23, 24, 32, 33] [13, 14, 15, 34, 35, 36, 37, 38, 39, 40, 41, 42, 43, 44, 45, 46, 47, 48, 49, 50, 51, 52, 53, 54, 55, 56, 57, 58, 59, 60, 61, 62] (fun i : Nat => i ≤ t.length) (fun i => [(34, .I i), (12, .own 31), (13, .B (fitsB t left c i))]) (fun i => [(31, .arr 3 1 ((nextL t left c i).map fun x => [CD.I x]))]) (fun i => t.length - i) 0 (by omega) ?_ ?_
        · simp (disch := omega) only [go_sem, Nat.reduceLT, Nat.reduceAdd, Nat.reduceSub, Nat.reduceMul, Nat.reduceBEq, Nat.reduceEqDiff, Nat.reduceLeDiff, reduceCtorEq, ↓reduceIte, beq_dec, Int.reduceToNat, Int.reduceLT, Int.reduceLE, Int.reduceAdd, Int.reduceSub, Int.reduceMul, Int.reduceEq, Int.reduceNeg, Int.reduceNe, Int.toNat_natCast, IntKind.signed, IntKind.bits, Int.reducePow, Nat.reducePow, Int.natCast_zero, nextL_zero]
          simp [fitsB]
        · intro i hi
          have hvi := hv i
          have hnl := nextL_len t left c i
          have e0 : i < left.length → nth (nextL t left c i) i = nth left i := fun h => by rw [nextL_nth t left c i i h]; simp
          (repeat' (first | refine Sni.mk (fun hc => ?_) ?_ | refine AW_seq ?_ | refine AW_block ?_ | ((first | refine AW_reg ?_ | refine AW_cond ?_ | refine AW_skip ?_ | refine AW_exit ?_ | refine AW_ret ?_ | refine AW_regD (by kernel_rfl) ?_ | refine AW_regX (by kernel_rfl) ?_ | refine CallAtG.t (Eq.refl true) ?_ | refine CallAtG.f (Eq.refl false) ?_ | refine CallAt.mk _ (f116 ..) (by first | (intro h; cases h; done) | (intro _; repeat' (first | exact List.forall_mem_nil _ | trivial | refine List.forall_mem_cons.2 ⟨?_, ?_⟩)) | (intro _; simp [RV.flatP, CD.flatP, getD_map (fun r : List Int => [Row r]), getD_map (fun x : Int => [CD.I x]), nextL_len, hl, e0]; done)) ?_ | refine CallAtG.mk _ (fun _ => f116 ..) ?_ | refine CallDS.mk _ (by simp [RV.data]) (fun _ => f116 ..) (by first | (intro h; cases h; done) | (intro _; repeat' (first | exact List.forall_mem_nil _ | trivial | refine List.forall_mem_cons.2 ⟨?_, ?_⟩)) | (intro _; simp [RV.flatP, CD.flatP, getD_map (fun r : List Int => [Row r]), getD_map (fun x : Int => [CD.I x]), nextL_len, hl, e0]; done)) ?_); try simp (disch := omega) only [go_sem, Nat.reduceLT, Nat.reduceAdd, Nat.reduceSub, Nat.reduceMul, Nat.reduceBEq, Nat.reduceEqDiff, Nat.reduceLeDiff, reduceCtorEq, ↓reduceIte, beq_dec, Int.reduceToNat, Int.reduceLT, Int.reduceLE, Int.reduceAdd, Int.reduceSub, Int.reduceMul, Int.reduceEq, Int.reduceNeg, Int.reduceNe, Int.toNat_natCast, IntKind.signed, IntKind.bits, Int.reducePow, Nat.reducePow, getD_map (fun r : List Int => [Row r]), getD_map (fun x : Int => [CD.I x]), nextL_len, hl, e0]) | refine And.intro (fun hc => (?_ : AW _ _ _ _)) (fun hc => (?_ : AW _ _ _ _)) | simp (disch := omega) only [go_sem, Nat.reduceLT, Nat.reduceAdd, Nat.reduceSub, Nat.reduceMul, Nat.reduceBEq, Nat.reduceEqDiff, Nat.reduceLeDiff, reduceCtorEq, ↓reduceIte, beq_dec, Int.reduceToNat, Int.reduceLT, Int.reduceLE, Int.reduceAdd, Int.reduceSub, Int.reduceMul, Int.reduceEq, Int.reduceNeg, Int.reduceNe, Int.toNat_natCast, IntKind.signed, IntKind.bits, Int.reducePow, Nat.reducePow, getD_map (fun r : List Int => [Row r]), getD_map (fun x : Int => [CD.I x]), nextL_len, hl, e0] | (refine And.intro ?_ ?_; focus (first | (intros; omega) | (intros; simp_all; done))) | refine And.intro (?_ : CallAt _ _ _ _ _ _ _ _) ?_ | fail))
          · refine .mk (i + 1) (by omega) (by omega) ?_
            have e1 : fitsB t left c (i + 1) = fitsB t left c i := by rw [fitsB_succ]; simp_all
            simp (disch := omega) only [go_sem, Nat.reduceLT, Nat.reduceAdd, Nat.reduceSub, Nat.reduceMul, Nat.reduceBEq, Nat.reduceEqDiff, Nat.reduceLeDiff, reduceCtorEq, ↓reduceIte, beq_dec, Int.reduceToNat, Int.reduceLT, Int.reduceLE, Int.reduceAdd, Int.reduceSub, Int.reduceMul, Int.reduceEq, Int.reduceNeg, Int.reduceNe, Int.toNat_natCast, IntKind.signed, IntKind.bits, Int.reducePow, Nat.reducePow, Int.natCast_add, Int.natCast_one, e1, nextL_in t left c i (by omega) (by assumption), List.map_set]
          · refine .mk (i + 1) (by omega) (by omega) ?_
            have e1 : fitsB t left c (i + 1) = false := by rw [fitsB_succ]; simp_all
            simp (disch := omega) only [go_sem, Nat.reduceLT, Nat.reduceAdd, Nat.reduceSub, Nat.reduceMul, Nat.reduceBEq, Nat.reduceEqDiff, Nat.reduceLeDiff, reduceCtorEq, ↓reduceIte, beq_dec, Int.reduceToNat, Int.reduceLT, Int.reduceLE, Int.reduceAdd, Int.reduceSub, Int.reduceMul, Int.reduceEq, Int.reduceNeg, Int.reduceNe, Int.toNat_natCast, IntKind.signed, IntKind.bits, Int.reducePow, Nat.reducePow, Int.natCast_add, Int.natCast_one, e1, nextL_out t left c i (by assumption)]
          · refine .mk (i + 1) (by omega) (by omega) ?_
            have e1 : fitsB t left c (i + 1) = fitsB t left c i := by rw [fitsB_succ]; simp_all
            simp (disch := omega) only [go_sem, Nat.reduceLT, Nat.reduceAdd, Nat.reduceSub, Nat.reduceMul, Nat.reduceBEq, Nat.reduceEqDiff, Nat.reduceLeDiff, reduceCtorEq, ↓reduceIte, beq_dec, Int.reduceToNat, Int.reduceLT, Int.reduceLE, Int.reduceAdd, Int.reduceSub, Int.reduceMul, Int.reduceEq, Int.reduceNeg, Int.reduceNe, Int.toNat_natCast, IntKind.signed, IntKind.bits, Int.reducePow, Nat.reducePow, Int.natCast_add, Int.natCast_one, e1, nextL_out t left c i (by assumption)]
          · have hi' : i = t.length := by omega
            subst hi'
            cases hf : fitsB t left c t.length with
            | false =>
              (repeat' (first | refine Sni.mk (fun hc => ?_) ?_ | refine AW_seq ?_ | refine AW_block ?_ | ((first | refine AW_reg ?_ | refine AW_cond ?_ | refine AW_skip ?_ | refine AW_exit ?_ | refine AW_ret ?_ | refine AW_regD (by kernel_rfl) ?_ | refine AW_regX (by kernel_rfl) ?_ | refine CallAtG.t (Eq.refl true) ?_ | refine CallAtG.f (Eq.refl false) ?_); try simp (disch := omega) only [go_sem, Nat.reduceLT, Nat.reduceAdd, Nat.reduceSub, Nat.reduceMul, Nat.reduceBEq, Nat.reduceEqDiff, Nat.reduceLeDiff, reduceCtorEq, ↓reduceIte, beq_dec, Int.reduceToNat, Int.reduceLT, Int.reduceLE, Int.reduceAdd, Int.reduceSub, Int.reduceMul, Int.reduceEq, Int.reduceNeg, Int.reduceNe, Int.toNat_natCast, IntKind.signed, IntKind.bits, Int.reducePow, Nat.reducePow]) | refine And.intro (fun hc => (?_ : AW _ _ _ _)) (fun hc => (?_ : AW _ _ _ _)) | simp (disch := omega) only [go_sem, Nat.reduceLT, Nat.reduceAdd, Nat.reduceSub, Nat.reduceMul, Nat.reduceBEq, Nat.reduceEqDiff, Nat.reduceLeDiff, reduceCtorEq, ↓reduceIte, beq_dec, Int.reduceToNat, Int.reduceLT, Int.reduceLE, Int.reduceAdd, Int.reduceSub, Int.reduceMul, Int.reduceEq, Int.reduceNeg, Int.reduceNe, Int.toNat_natCast, IntKind.signed, IntKind.bits, Int.reducePow, Nat.reducePow] | (refine And.intro ?_ ?_; focus (first | (intros; omega) | (intros; simp_all; done))) | refine And.intro (?_ : CallAt _ _ _ _ _ _ _ _) ?_ | fail))
              refine .mk (c + 1) ⟨by omega, step_lt hbr (by unfold br; rw [if_pos (.inr hf)])⟩ (by omega) ?_
              simp (disch := omega) only [go_sem, Nat.reduceLT, Nat.reduceAdd, Nat.reduceSub, Nat.reduceMul, Nat.reduceBEq, Nat.reduceEqDiff, Nat.reduceLeDiff, reduceCtorEq, ↓reduceIte, beq_dec, Int.reduceToNat, Int.reduceLT, Int.reduceLE, Int.reduceAdd, Int.reduceSub, Int.reduceMul, Int.reduceEq, Int.reduceNeg, Int.reduceNe, Int.toNat_natCast, IntKind.signed, IntKind.bits, Int.reducePow, Nat.reducePow, Int.natCast_add, Int.natCast_one]
            | true =>
              have hbrc : br n t k b left c = walks n t k (b ++ [(c : Int)]) (nextL t left c t.length) := by
                unfold br; rw [if_neg]; rw [hf]; simp; assumption
              have g := ih (b ++ [(c : Int)]) (nextL t left c t.length) ⟨by simp; omega, hn, ht, hr, by omega, fun i hi => by
                rw [nextL_nth t left c _ i (by omega)]
                have := hv i hi
                split <;> omega⟩
              simp only [Row, List.map_append, List.map_cons, List.map_nil] at g
              rw [← hbrc] at g
              (repeat' (first | refine Sni.mk (fun hc => ?_) ?_ | refine AW_seq ?_ | refine AW_block ?_ | ((first | refine AW_reg ?_ | refine AW_cond ?_ | refine AW_skip ?_ | refine AW_exit ?_ | refine AW_ret ?_ | refine AW_regD (by kernel_rfl) ?_ | refine AW_regX (by kernel_rfl) ?_ | refine CallAtG.t (Eq.refl true) ?_ | refine CallAtG.f (Eq.refl false) ?_ | refine CallAt.mk _ (g96b ..) (by first | (intro h; cases h; done) | (intro _; repeat' (first | exact List.forall_mem_nil _ | trivial | refine List.forall_mem_cons.2 ⟨?_, ?_⟩)) | (intro _; simp [RV.flatP, CD.flatP, maxLen]; done)) ?_ | refine CallAtG.mk _ (fun _ => g96b ..) ?_ | refine CallDS.mk _ (by simp [RV.data]) (fun _ => g96b ..) (by first | (intro h; cases h; done) | (intro _; repeat' (first | exact List.forall_mem_nil _ | trivial | refine List.forall_mem_cons.2 ⟨?_, ?_⟩)) | (intro _; simp [RV.flatP, CD.flatP, maxLen]; done)) ?_); try simp (disch := omega) only [go_sem, Nat.reduceLT, Nat.reduceAdd, Nat.reduceSub, Nat.reduceMul, Nat.reduceBEq, Nat.reduceEqDiff, Nat.reduceLeDiff, reduceCtorEq, ↓reduceIte, beq_dec, Int.reduceToNat, Int.reduceLT, Int.reduceLE, Int.reduceAdd, Int.reduceSub, Int.reduceMul, Int.reduceEq, Int.reduceNeg, Int.reduceNe, Int.toNat_natCast, IntKind.signed, IntKind.bits, Int.reducePow, Nat.reducePow, maxLen]) | refine And.intro (fun hc => (?_ : AW _ _ _ _)) (fun hc => (?_ : AW _ _ _ _)) | simp (disch := omega) only [go_sem, Nat.reduceLT, Nat.reduceAdd, Nat.reduceSub, Nat.reduceMul, Nat.reduceBEq, Nat.reduceEqDiff, Nat.reduceLeDiff, reduceCtorEq, ↓reduceIte, beq_dec, Int.reduceToNat, Int.reduceLT, Int.reduceLE, Int.reduceAdd, Int.reduceSub, Int.reduceMul, Int.reduceEq, Int.reduceNeg, Int.reduceNe, Int.toNat_natCast, IntKind.signed, IntKind.bits, Int.reducePow, Nat.reducePow, maxLen] | (refine And.intro ?_ ?_; focus (first | (intros; omega) | (intros; simp_all; done))) | refine And.intro (?_ : CallAt _ _ _ _ _ _ _ _) ?_ | fail))
              refine CallAt.frz [31, 68] ?_
              simp (disch := omega) only [go_sem, Nat.reduceLT, Nat.reduceAdd, Nat.reduceSub, Nat.reduceMul, Nat.reduceBEq, Nat.reduceEqDiff, Nat.reduceLeDiff, reduceCtorEq, ↓reduceIte, beq_dec, Int.reduceToNat, Int.reduceLT, Int.reduceLE, Int.reduceAdd, Int.reduceSub, Int.reduceMul, Int.reduceEq, Int.reduceNeg, Int.reduceNe, Int.toNat_natCast, IntKind.signed, IntKind.bits, Int.reducePow, Nat.reducePow]
              cases hr : br n t k b left c with
              | nil =>
                rw [hr] at g
                simp only [List.isEmpty_nil, Bool.not_true, fo] at g
                (repeat' (first | refine Sni.mk (fun hc => ?_) ?_ | refine AW_seq ?_ | refine AW_block ?_ | ((first | refine AW_reg ?_ | refine AW_cond ?_ | refine AW_skip ?_ | refine AW_exit ?_ | refine AW_ret ?_ | refine AW_regD (by kernel_rfl) ?_ | refine AW_regX (by kernel_rfl) ?_ | refine CallAt.mkW (g ..) (by rfl) (by simp (disch := omega) only [go_sem, Nat.reduceLT, Nat.reduceAdd, Nat.reduceSub, Nat.reduceMul, Nat.reduceBEq, Nat.reduceEqDiff, Nat.reduceLeDiff, reduceCtorEq, ↓reduceIte, beq_dec, Int.reduceToNat, Int.reduceLT, Int.reduceLE, Int.reduceAdd, Int.reduceSub, Int.reduceMul, Int.reduceEq, Int.reduceNeg, Int.reduceNe, Int.toNat_natCast, IntKind.signed, IntKind.bits, Int.reducePow, Nat.reducePow]) (by rfl) (by rfl) (by first | (intro h; cases h; done) | (intro _; simp [RV.flatP, CD.flatP, flatOb, AO.flatP]; done)) ?_ | refine CallAtG.t (Eq.refl true) ?_ | refine CallAtG.f (Eq.refl false) ?_); try simp (disch := omega) only [go_sem, Nat.reduceLT, Nat.reduceAdd, Nat.reduceSub, Nat.reduceMul, Nat.reduceBEq, Nat.reduceEqDiff, Nat.reduceLeDiff, reduceCtorEq, ↓reduceIte, beq_dec, Int.reduceToNat, Int.reduceLT, Int.reduceLE, Int.reduceAdd, Int.reduceSub, Int.reduceMul, Int.reduceEq, Int.reduceNeg, Int.reduceNe, Int.toNat_natCast, IntKind.signed, IntKind.bits, Int.reducePow, Nat.reducePow]) | refine And.intro (fun hc => (?_ : AW _ _ _ _)) (fun hc => (?_ : AW _ _ _ _)) | simp (disch := omega) only [go_sem, Nat.reduceLT, Nat.reduceAdd, Nat.reduceSub, Nat.reduceMul, Nat.reduceBEq, Nat.reduceEqDiff, Nat.reduceLeDiff, reduceCtorEq, ↓reduceIte, beq_dec, Int.reduceToNat, Int.reduceLT, Int.reduceLE, Int.reduceAdd, Int.reduceSub, Int.reduceMul, Int.reduceEq, Int.reduceNeg, Int.reduceNe, Int.toNat_natCast, IntKind.signed, IntKind.bits, Int.reducePow, Nat.reducePow] | (refine And.intro ?_ ?_; focus (first | (intros; omega) | (intros; simp_all; done))) | refine And.intro (?_ : CallAt _ _ _ _ _ _ _ _) ?_ | fail))
                refine .mk (c + 1) ⟨by omega, step_lt hbr hr⟩ (by omega) ?_
                simp (disch := omega) only [go_sem, Nat.reduceLT, Nat.reduceAdd, Nat.reduceSub, Nat.reduceMul, Nat.reduceBEq, Nat.reduceEqDiff, Nat.reduceLeDiff, reduceCtorEq, ↓reduceIte, beq_dec, Int.reduceToNat, Int.reduceLT, Int.reduceLE, Int.reduceAdd, Int.reduceSub, Int.reduceMul, Int.reduceEq, Int.reduceNeg, Int.reduceNe, Int.toNat_natCast, IntKind.signed, IntKind.bits, Int.reducePow, Nat.reducePow, Int.natCast_add, Int.natCast_one]
              | cons o r =>
                rw [hr] at g
                simp only [List.isEmpty_cons, Bool.not_false] at g
                (repeat' (first | refine Sni.mk (fun hc => ?_) ?_ | refine AW_seq ?_ | refine AW_block ?_ | ((first | refine AW_reg ?_ | refine AW_cond ?_ | refine AW_skip ?_ | refine AW_exit ?_ | refine AW_ret ?_ | refine AW_regD (by kernel_rfl) ?_ | refine AW_regX (by kernel_rfl) ?_ | refine CallAt.mkW (g ..) (by rfl) (by simp (disch := omega) only [go_sem, Nat.reduceLT, Nat.reduceAdd, Nat.reduceSub, Nat.reduceMul, Nat.reduceBEq, Nat.reduceEqDiff, Nat.reduceLeDiff, reduceCtorEq, ↓reduceIte, beq_dec, Int.reduceToNat, Int.reduceLT, Int.reduceLE, Int.reduceAdd, Int.reduceSub, Int.reduceMul, Int.reduceEq, Int.reduceNeg, Int.reduceNe, Int.toNat_natCast, IntKind.signed, IntKind.bits, Int.reducePow, Nat.reducePow]) (by rfl) (by rfl) (by first | (intro h; cases h; done) | (intro _; simp [RV.flatP, CD.flatP, flatOb, AO.flatP]; done)) ?_ | refine CallAtG.t (Eq.refl true) ?_ | refine CallAtG.f (Eq.refl false) ?_); try simp (disch := omega) only [go_sem, Nat.reduceLT, Nat.reduceAdd, Nat.reduceSub, Nat.reduceMul, Nat.reduceBEq, Nat.reduceEqDiff, Nat.reduceLeDiff, reduceCtorEq, ↓reduceIte, beq_dec, Int.reduceToNat, Int.reduceLT, Int.reduceLE, Int.reduceAdd, Int.reduceSub, Int.reduceMul, Int.reduceEq, Int.reduceNeg, Int.reduceNe, Int.toNat_natCast, IntKind.signed, IntKind.bits, Int.reducePow, Nat.reducePow]) | refine And.intro (fun hc => (?_ : AW _ _ _ _)) (fun hc => (?_ : AW _ _ _ _)) | simp (disch := omega) only [go_sem, Nat.reduceLT, Nat.reduceAdd, Nat.reduceSub, Nat.reduceMul, Nat.reduceBEq, Nat.reduceEqDiff, Nat.reduceLeDiff, reduceCtorEq, ↓reduceIte, beq_dec, Int.reduceToNat, Int.reduceLT, Int.reduceLE, Int.reduceAdd, Int.reduceSub, Int.reduceMul, Int.reduceEq, Int.reduceNeg, Int.reduceNe, Int.toNat_natCast, IntKind.signed, IntKind.bits, Int.reducePow, Nat.reducePow] | (refine And.intro ?_ ?_; focus (first | (intros; omega) | (intros; simp_all; done))) | refine And.intro (?_ : CallAt _ _ _ _ _ _ _ _) ?_ | fail))
                obtain ⟨q1, q2⟩ := flatMap_first (f := br n t k b left) (n := n) (c := c) (by omega) hbr (by rw [hr]; simp)
                rw [q1, q2, hr]
                exact ⟨rfl, rfl, rfl⟩
      · rw [show c = n by omega] at hbr
        have e : (List.range n).flatMap (br n t k b left) = [] := by
          rw [List.flatMap_eq_nil_iff]
          intro j hj
          exact hbr j (List.mem_range.1 hj)
        rw [e]
        exact ⟨rfl, rfl, rfl⟩

/-! ### what it makes -/
theorem tab_ok {n : Int} {t : List (List Int)} (h : validT n t = true) : 0 ≤ n ∧ n ≤ 7 ∧ t.length ≤ 16 ∧ ∀ i, i < t.length → (nth t i).length ≤ 7 := by
  obtain ⟨h1, h2, h3, h4⟩ := validT_of h
  refine ⟨h1, h2, h3, fun i hi => ?_⟩
  have := asc_len (h4 i hi)
  omega
theorem f97F (n : Int) (t : List (List Int)) (h : validT n t = true) : FnW Try.prog 45 [.I n, .c (Tab t), vF] [(1000006, .box 25 [.c .nil]), (1000007, .box 4 [.B false])]
    [] [(1000006, .box 25 [.c (fo (walks n.toNat t n.toNat [] (t.map fun r => (r.length : Int))))]), (1000007, .box 4 [.B (!(walks n.toNat t n.toNat [] (t.map fun r => (r.length : Int))).isEmpty)])] [1000006, 1000007] := by
  obtain ⟨h1, h2, h3, h4⟩ := tab_ok h
  obtain ⟨m, rfl⟩ : ∃ m : Nat, n = m := ⟨n.toNat, by omega⟩
  simp only [Int.toNat_natCast]
  have hnth : ∀ i, i < t.length → nth (t.map fun r => (r.length : Int)) i = ((nth t i).length : Int) := fun i hi => by
    rw [nth_eq _ i (by simpa using hi), nth_eq _ i hi]; simp
  have g130 := f130F m t m [] (t.map fun r => (r.length : Int)) ⟨by simp, by omega, h3, fun i hi => by have := h4 i hi; omega, by simp, fun i hi => by
    rw [hnth i hi]
    have := h4 i hi
    omega⟩
  refine fn_walkW code45 (by simp) (by rfl) ?_
  (repeat' (first | refine Sni.mk (fun hc => ?_) ?_ | refine AW_seq ?_ | refine AW_block ?_ | ((first | refine AW_reg ?_ | refine AW_cond ?_ | refine AW_skip ?_ | refine AW_exit ?_ | refine AW_ret ?_ | refine AW_regD (by kernel_rfl) ?_ | refine AW_regX (by kernel_rfl) ?_ | refine CallAtG.t (Eq.refl true) ?_ | refine CallAtG.f (Eq.refl false) ?_); try simp (disch := omega) only [go_sem, Nat.reduceLT, Nat.reduceAdd, Nat.reduceSub, Nat.reduceMul, Nat.reduceBEq, Nat.reduceEqDiff, Nat.reduceLeDiff, reduceCtorEq, ↓reduceIte, beq_dec, Int.reduceToNat, Int.reduceLT, Int.reduceLE, Int.reduceAdd, Int.reduceSub, Int.reduceMul, Int.reduceEq, Int.reduceNeg, Int.reduceNe, Int.toNat_natCast, IntKind.signed, IntKind.bits, Int.reducePow, Nat.reducePow]) | refine And.intro (fun hc => (?_ : AW _ _ _ _)) (fun hc => (?_ : AW _ _ _ _)) | simp (disch := omega) only [go_sem, Nat.reduceLT, Nat.reduceAdd, Nat.reduceSub, Nat.reduceMul, Nat.reduceBEq, Nat.reduceEqDiff, Nat.reduceLeDiff, reduceCtorEq, ↓reduceIte, beq_dec, Int.reduceToNat, Int.reduceLT, Int.reduceLE, Int.reduceAdd, Int.reduceSub, Int.reduceMul, Int.reduceEq, Int.reduceNeg, Int.reduceNe, Int.toNat_natCast, IntKind.signed, IntKind.bits, Int.reducePow, Nat.reducePow] | (refine And.intro ?_ ?_; focus (first | (intros; omega) | (intros; simp_all; done))) | refine And.intro (?_ : CallAt _ _ _ _ _ _ _ _) ?_ | fail))
  refine AW_nil 6 900 3 1 (by rfl) ?_
  refine AW_loopK [0, 1, 2, 9, 10] [6, 8, 11, 12, 13, 14, 15, 16, 17, 18, 19, 20] (fun i : Nat => i ≤ t.length) (fun i => [(11, .I i), (6, .own 900)]) (fun i => [(900, .arr 3 1 (((t.take i).map fun r => (r.length : Int)).map fun x => [CD.I x]))]) (fun i => t.length - i) 0 (by omega) ?_ ?_
  · simp (disch := omega) only [go_sem, Nat.reduceLT, Nat.reduceAdd, Nat.reduceSub, Nat.reduceMul, Nat.reduceBEq, Nat.reduceEqDiff, Nat.reduceLeDiff, reduceCtorEq, ↓reduceIte, beq_dec, Int.reduceToNat, Int.reduceLT, Int.reduceLE, Int.reduceAdd, Int.reduceSub, Int.reduceMul, Int.reduceEq, Int.reduceNeg, Int.reduceNe, Int.toNat_natCast, IntKind.signed, IntKind.bits, Int.reducePow, Nat.reducePow, Int.natCast_zero]
  · intro i hi
    (repeat' (first | refine Sni.mk (fun hc => ?_) ?_ | refine AW_seq ?_ | refine AW_block ?_ | ((first | refine AW_reg ?_ | refine AW_cond ?_ | refine AW_skip ?_ | refine AW_exit ?_ | refine AW_ret ?_ | refine AW_regD (by kernel_rfl) ?_ | refine AW_regX (by kernel_rfl) ?_ | refine CallAtG.t (Eq.refl true) ?_ | refine CallAtG.f (Eq.refl false) ?_); try simp (disch := omega) only [go_sem, Nat.reduceLT, Nat.reduceAdd, Nat.reduceSub, Nat.reduceMul, Nat.reduceBEq, Nat.reduceEqDiff, Nat.reduceLeDiff, reduceCtorEq, ↓reduceIte, beq_dec, Int.reduceToNat, Int.reduceLT, Int.reduceLE, Int.reduceAdd, Int.reduceSub, Int.reduceMul, Int.reduceEq, Int.reduceNeg, Int.reduceNe, Int.toNat_natCast, IntKind.signed, IntKind.bits, Int.reducePow, Nat.reducePow, maxLen, getD_map (fun r : List Int => [Row r]), List.length_take]) | refine And.intro (fun hc => (?_ : AW _ _ _ _)) (fun hc => (?_ : AW _ _ _ _)) | simp (disch := omega) only [go_sem, Nat.reduceLT, Nat.reduceAdd, Nat.reduceSub, Nat.reduceMul, Nat.reduceBEq, Nat.reduceEqDiff, Nat.reduceLeDiff, reduceCtorEq, ↓reduceIte, beq_dec, Int.reduceToNat, Int.reduceLT, Int.reduceLE, Int.reduceAdd, Int.reduceSub, Int.reduceMul, Int.reduceEq, Int.reduceNeg, Int.reduceNe, Int.toNat_natCast, IntKind.signed, IntKind.bits, Int.reducePow, Nat.reducePow, maxLen, getD_map (fun r : List Int => [Row r]), List.length_take] | (refine And.intro ?_ ?_; focus (first | (intros; omega) | (intros; simp_all; done))) | refine And.intro (?_ : CallAt _ _ _ _ _ _ _ _) ?_ | fail))
    · refine .mk (i + 1) (by omega) (by omega) ?_
      have e : t.take (i + 1) = t.take i ++ [nth t i] := by rw [List.take_succ_eq_append_getElem (by omega), nth_eq t i (by omega)]
      simp (disch := omega) only [go_sem, Nat.reduceLT, Nat.reduceAdd, Nat.reduceSub, Nat.reduceMul, Nat.reduceBEq, Nat.reduceEqDiff, Nat.reduceLeDiff, reduceCtorEq, ↓reduceIte, beq_dec, Int.reduceToNat, Int.reduceLT, Int.reduceLE, Int.reduceAdd, Int.reduceSub, Int.reduceMul, Int.reduceEq, Int.reduceNeg, Int.reduceNe, Int.toNat_natCast, IntKind.signed, IntKind.bits, Int.reducePow, Nat.reducePow, Int.natCast_add, Int.natCast_one, e, List.map_append]
    · have hi' : i = t.length := by omega
      subst hi'
      refine CallAt.frz [900] ?_
      have g := FnW.nil (pre := [_, _]) (post := [_, _]) g130
      simp only [List.cons_append, List.nil_append] at g
      simp only [List.take_length]
      (repeat' (first | refine Sni.mk (fun hc => ?_) ?_ | refine AW_seq ?_ | refine AW_block ?_ | ((first | refine AW_reg ?_ | refine AW_cond ?_ | refine AW_skip ?_ | refine AW_exit ?_ | refine AW_ret ?_ | refine AW_regD (by kernel_rfl) ?_ | refine AW_regX (by kernel_rfl) ?_ | refine CallAt.mkW (g ..) (by rfl) (by simp (disch := omega) only [go_sem, Nat.reduceLT, Nat.reduceAdd, Nat.reduceSub, Nat.reduceMul, Nat.reduceBEq, Nat.reduceEqDiff, Nat.reduceLeDiff, reduceCtorEq, ↓reduceIte, beq_dec, Int.reduceToNat, Int.reduceLT, Int.reduceLE, Int.reduceAdd, Int.reduceSub, Int.reduceMul, Int.reduceEq, Int.reduceNeg, Int.reduceNe, Int.toNat_natCast, IntKind.signed, IntKind.bits, Int.reducePow, Nat.reducePow]) (by rfl) (by rfl) (by first | (intro h; cases h; done) | (intro _; simp [RV.flatP, CD.flatP, flatOb, AO.flatP]; done)) ?_ | refine CallAtG.t (Eq.refl true) ?_ | refine CallAtG.f (Eq.refl false) ?_); try simp (disch := omega) only [go_sem, Nat.reduceLT, Nat.reduceAdd, Nat.reduceSub, Nat.reduceMul, Nat.reduceBEq, Nat.reduceEqDiff, Nat.reduceLeDiff, reduceCtorEq, ↓reduceIte, beq_dec, Int.reduceToNat, Int.reduceLT, Int.reduceLE, Int.reduceAdd, Int.reduceSub, Int.reduceMul, Int.reduceEq, Int.reduceNeg, Int.reduceNe, Int.toNat_natCast, IntKind.signed, IntKind.bits, Int.reducePow, Nat.reducePow]) | refine And.intro (fun hc => (?_ : AW _ _ _ _)) (fun hc => (?_ : AW _ _ _ _)) | simp (disch := omega) only [go_sem, Nat.reduceLT, Nat.reduceAdd, Nat.reduceSub, Nat.reduceMul, Nat.reduceBEq, Nat.reduceEqDiff, Nat.reduceLeDiff, reduceCtorEq, ↓reduceIte, beq_dec, Int.reduceToNat, Int.reduceLT, Int.reduceLE, Int.reduceAdd, Int.reduceSub, Int.reduceMul, Int.reduceEq, Int.reduceNeg, Int.reduceNe, Int.toNat_natCast, IntKind.signed, IntKind.bits, Int.reducePow, Nat.reducePow] | (refine And.intro ?_ ?_; focus (first | (intros; omega) | (intros; simp_all; done))) | refine And.intro (?_ : CallAt _ _ _ _ _ _ _ _) ?_ | fail))
/-- all orders without gaps, as they are walked -/
def ords (n : Int) (t : List (List Int)) : List (List Int) := if validT n t = true then walks n.toNat t n.toNat [] (t.map fun r => (r.length : Int)) else []
def firstE (n : Int) (t : List (List Int)) : Int := if validT n t = true then (if (ords n t).isEmpty = true then 7 else 0) else 1
theorem rn6 : rn 1000006 = 6 := rfl
theorem rn7 : rn 1000007 = 7 := rfl
theorem f51 (n : Int) (t : List (List Int)) : FnR Try.prog 41 [.I n, .c (Tab t)] [.c (fo (ords n t)), .c (.I (firstE n t))] := by
  refine fn_walk code41 (by simp) ?_
  have g38 := f38 n t
  unfold firstE ords
  cases hv : validT n t with
  | false =>
    rw [hv] at g38
    simp only [Bool.false_eq_true, if_false, fo]
    (repeat' (first | refine Sni.mk (fun hc => ?_) ?_ | refine AW_seq ?_ | refine AW_block ?_ | ((first | refine AW_reg ?_ | refine AW_cond ?_ | refine AW_skip ?_ | refine AW_exit ?_ | refine AW_ret ?_ | refine AW_regD (by kernel_rfl) ?_ | refine AW_regX (by kernel_rfl) ?_ | refine CallAtG.t (Eq.refl true) ?_ | refine CallAtG.f (Eq.refl false) ?_ | refine CallAt.mk _ (g38 ..) (by first | (intro h; cases h; done) | (intro _; repeat' (first | exact List.forall_mem_nil _ | trivial | refine List.forall_mem_cons.2 ⟨?_, ?_⟩)) | (intro _; simp [RV.flatP, CD.flatP]; done)) ?_ | refine CallAtG.mk _ (fun _ => g38 ..) ?_ | refine CallDS.mk _ (by simp [RV.data]) (fun _ => g38 ..) (by first | (intro h; cases h; done) | (intro _; repeat' (first | exact List.forall_mem_nil _ | trivial | refine List.forall_mem_cons.2 ⟨?_, ?_⟩)) | (intro _; simp [RV.flatP, CD.flatP]; done)) ?_); try simp (disch := omega) only [go_sem, Nat.reduceLT, Nat.reduceAdd, Nat.reduceSub, Nat.reduceMul, Nat.reduceBEq, Nat.reduceEqDiff, Nat.reduceLeDiff, reduceCtorEq, ↓reduceIte, beq_dec, Int.reduceToNat, Int.reduceLT, Int.reduceLE, Int.reduceAdd, Int.reduceSub, Int.reduceMul, Int.reduceEq, Int.reduceNeg, Int.reduceNe, Int.toNat_natCast, IntKind.signed, IntKind.bits, Int.reducePow, Nat.reducePow]) | refine And.intro (fun hc => (?_ : AW _ _ _ _)) (fun hc => (?_ : AW _ _ _ _)) | simp (disch := omega) only [go_sem, Nat.reduceLT, Nat.reduceAdd, Nat.reduceSub, Nat.reduceMul, Nat.reduceBEq, Nat.reduceEqDiff, Nat.reduceLeDiff, reduceCtorEq, ↓reduceIte, beq_dec, Int.reduceToNat, Int.reduceLT, Int.reduceLE, Int.reduceAdd, Int.reduceSub, Int.reduceMul, Int.reduceEq, Int.reduceNeg, Int.reduceNe, Int.toNat_natCast, IntKind.signed, IntKind.bits, Int.reducePow, Nat.reducePow] | (refine And.intro ?_ ?_; focus (first | (intros; omega) | (intros; simp_all; done))) | refine And.intro (?_ : CallAt _ _ _ _ _ _ _ _) ?_ | fail))
  | true =>
    rw [hv] at g38
    have g := FnW.low (f97F n t hv)
    simp only [renL, AV.ren, renOb, AO.ren, List.map_cons, List.map_nil, rn6, rn7] at g
    simp only [if_true]
    generalize walks n.toNat t n.toNat [] (t.map fun r => (r.length : Int)) = W at g
    cases W with
    | nil =>
      simp only [List.isEmpty_nil, Bool.not_true, fo, if_true] at g ⊢
      (repeat' (first | refine Sni.mk (fun hc => ?_) ?_ | refine AW_seq ?_ | refine AW_block ?_ | ((first | refine AW_reg ?_ | refine AW_cond ?_ | refine AW_skip ?_ | refine AW_exit ?_ | refine AW_ret ?_ | refine AW_regD (by kernel_rfl) ?_ | refine AW_regX (by kernel_rfl) ?_ | refine CallAt.mkW (g ..) (by rfl) (by simp (disch := omega) only [go_sem, Nat.reduceLT, Nat.reduceAdd, Nat.reduceSub, Nat.reduceMul, Nat.reduceBEq, Nat.reduceEqDiff, Nat.reduceLeDiff, reduceCtorEq, ↓reduceIte, beq_dec, Int.reduceToNat, Int.reduceLT, Int.reduceLE, Int.reduceAdd, Int.reduceSub, Int.reduceMul, Int.reduceEq, Int.reduceNeg, Int.reduceNe, Int.toNat_natCast, IntKind.signed, IntKind.bits, Int.reducePow, Nat.reducePow]) (by rfl) (by rfl) (by first | (intro h; cases h; done) | (intro _; simp [RV.flatP, CD.flatP, flatOb, AO.flatP]; done)) ?_ | refine CallAtG.t (Eq.refl true) ?_ | refine CallAtG.f (Eq.refl false) ?_ | refine CallAt.mk _ (g38 ..) (by first | (intro h; cases h; done) | (intro _; repeat' (first | exact List.forall_mem_nil _ | trivial | refine List.forall_mem_cons.2 ⟨?_, ?_⟩)) | (intro _; simp [RV.flatP, CD.flatP]; done)) ?_ | refine CallAtG.mk _ (fun _ => g38 ..) ?_ | refine CallDS.mk _ (by simp [RV.data]) (fun _ => g38 ..) (by first | (intro h; cases h; done) | (intro _; repeat' (first | exact List.forall_mem_nil _ | trivial | refine List.forall_mem_cons.2 ⟨?_, ?_⟩)) | (intro _; simp [RV.flatP, CD.flatP]; done)) ?_); try simp (disch := omega) only [go_sem, Nat.reduceLT, Nat.reduceAdd, Nat.reduceSub, Nat.reduceMul, Nat.reduceBEq, Nat.reduceEqDiff, Nat.reduceLeDiff, reduceCtorEq, ↓reduceIte, beq_dec, Int.reduceToNat, Int.reduceLT, Int.reduceLE, Int.reduceAdd, Int.reduceSub, Int.reduceMul, Int.reduceEq, Int.reduceNeg, Int.reduceNe, Int.toNat_natCast, IntKind.signed, IntKind.bits, Int.reducePow, Nat.reducePow]) | refine And.intro (fun hc => (?_ : AW _ _ _ _)) (fun hc => (?_ : AW _ _ _ _)) | simp (disch := omega) only [go_sem, Nat.reduceLT, Nat.reduceAdd, Nat.reduceSub, Nat.reduceMul, Nat.reduceBEq, Nat.reduceEqDiff, Nat.reduceLeDiff, reduceCtorEq, ↓reduceIte, beq_dec, Int.reduceToNat, Int.reduceLT, Int.reduceLE, Int.reduceAdd, Int.reduceSub, Int.reduceMul, Int.reduceEq, Int.reduceNeg, Int.reduceNe, Int.toNat_natCast, IntKind.signed, IntKind.bits, Int.reducePow, Nat.reducePow] | (refine And.intro ?_ ?_; focus (first | (intros; omega) | (intros; simp_all; done))) | refine And.intro (?_ : CallAt _ _ _ _ _ _ _ _) ?_ | fail))
    | cons o r =>
      simp only [List.isEmpty_cons, Bool.not_false, fo, Bool.false_eq_true, if_false] at g ⊢
      (repeat' (first | refine Sni.mk (fun hc => ?_) ?_ | refine AW_seq ?_ | refine AW_block ?_ | ((first | refine AW_reg ?_ | refine AW_cond ?_ | refine AW_skip ?_ | refine AW_exit ?_ | refine AW_ret ?_ | refine AW_regD (by kernel_rfl) ?_ | refine AW_regX (by kernel_rfl) ?_ | refine CallAt.mkW (g ..) (by rfl) (by simp (disch := omega) only [go_sem, Nat.reduceLT, Nat.reduceAdd, Nat.reduceSub, Nat.reduceMul, Nat.reduceBEq, Nat.reduceEqDiff, Nat.reduceLeDiff, reduceCtorEq, ↓reduceIte, beq_dec, Int.reduceToNat, Int.reduceLT, Int.reduceLE, Int.reduceAdd, Int.reduceSub, Int.reduceMul, Int.reduceEq, Int.reduceNeg, Int.reduceNe, Int.toNat_natCast, IntKind.signed, IntKind.bits, Int.reducePow, Nat.reducePow]) (by rfl) (by rfl) (by first | (intro h; cases h; done) | (intro _; simp [RV.flatP, CD.flatP, flatOb, AO.flatP]; done)) ?_ | refine CallAtG.t (Eq.refl true) ?_ | refine CallAtG.f (Eq.refl false) ?_ | refine CallAt.mk _ (g38 ..) (by first | (intro h; cases h; done) | (intro _; repeat' (first | exact List.forall_mem_nil _ | trivial | refine List.forall_mem_cons.2 ⟨?_, ?_⟩)) | (intro _; simp [RV.flatP, CD.flatP]; done)) ?_ | refine CallAtG.mk _ (fun _ => g38 ..) ?_ | refine CallDS.mk _ (by simp [RV.data]) (fun _ => g38 ..) (by first | (intro h; cases h; done) | (intro _; repeat' (first | exact List.forall_mem_nil _ | trivial | refine List.forall_mem_cons.2 ⟨?_, ?_⟩)) | (intro _; simp [RV.flatP, CD.flatP]; done)) ?_); try simp (disch := omega) only [go_sem, Nat.reduceLT, Nat.reduceAdd, Nat.reduceSub, Nat.reduceMul, Nat.reduceBEq, Nat.reduceEqDiff, Nat.reduceLeDiff, reduceCtorEq, ↓reduceIte, beq_dec, Int.reduceToNat, Int.reduceLT, Int.reduceLE, Int.reduceAdd, Int.reduceSub, Int.reduceMul, Int.reduceEq, Int.reduceNeg, Int.reduceNe, Int.toNat_natCast, IntKind.signed, IntKind.bits, Int.reducePow, Nat.reducePow]) | refine And.intro (fun hc => (?_ : AW _ _ _ _)) (fun hc => (?_ : AW _ _ _ _)) | simp (disch := omega) only [go_sem, Nat.reduceLT, Nat.reduceAdd, Nat.reduceSub, Nat.reduceMul, Nat.reduceBEq, Nat.reduceEqDiff, Nat.reduceLeDiff, reduceCtorEq, ↓reduceIte, beq_dec, Int.reduceToNat, Int.reduceLT, Int.reduceLE, Int.reduceAdd, Int.reduceSub, Int.reduceMul, Int.reduceEq, Int.reduceNeg, Int.reduceNe, Int.toNat_natCast, IntKind.signed, IntKind.bits, Int.reducePow, Nat.reducePow] | (refine And.intro ?_ ?_; focus (first | (intros; omega) | (intros; simp_all; done))) | refine And.intro (?_ : CallAt _ _ _ _ _ _ _ _) ?_ | fail))
def poss (n : Int) (t : List (List Int)) : Bool := validT n t && !(ords n t).isEmpty
theorem f36 (n : Int) (t : List (List Int)) : FnR Try.prog 30 [.I n, .c (Tab t)] [.c (.B (poss n t))] := by
  refine fn_walk code30 (by simp) ?_
  (repeat' (first | refine Sni.mk (fun hc => ?_) ?_ | refine AW_seq ?_ | refine AW_block ?_ | ((first | refine AW_reg ?_ | refine AW_cond ?_ | refine AW_skip ?_ | refine AW_exit ?_ | refine AW_ret ?_ | refine AW_regD (by kernel_rfl) ?_ | refine AW_regX (by kernel_rfl) ?_ | refine CallAtG.t (Eq.refl true) ?_ | refine CallAtG.f (Eq.refl false) ?_ | refine CallAt.mk _ (f51 ..) (by first | (intro h; cases h; done) | (intro _; repeat' (first | exact List.forall_mem_nil _ | trivial | refine List.forall_mem_cons.2 ⟨?_, ?_⟩)) | (intro _; simp [RV.flatP, CD.flatP]; done)) ?_ | refine CallAtG.mk _ (fun _ => f51 ..) ?_ | refine CallDS.mk _ (by simp [RV.data]) (fun _ => f51 ..) (by first | (intro h; cases h; done) | (intro _; repeat' (first | exact List.forall_mem_nil _ | trivial | refine List.forall_mem_cons.2 ⟨?_, ?_⟩)) | (intro _; simp [RV.flatP, CD.flatP]; done)) ?_); try simp (disch := omega) only [go_sem, Nat.reduceLT, Nat.reduceAdd, Nat.reduceSub, Nat.reduceMul, Nat.reduceBEq, Nat.reduceEqDiff, Nat.reduceLeDiff, reduceCtorEq, ↓reduceIte, beq_dec, Int.reduceToNat, Int.reduceLT, Int.reduceLE, Int.reduceAdd, Int.reduceSub, Int.reduceMul, Int.reduceEq, Int.reduceNeg, Int.reduceNe, Int.toNat_natCast, IntKind.signed, IntKind.bits, Int.reducePow, Nat.reducePow]) | refine And.intro (fun hc => (?_ : AW _ _ _ _)) (fun hc => (?_ : AW _ _ _ _)) | simp (disch := omega) only [go_sem, Nat.reduceLT, Nat.reduceAdd, Nat.reduceSub, Nat.reduceMul, Nat.reduceBEq, Nat.reduceEqDiff, Nat.reduceLeDiff, reduceCtorEq, ↓reduceIte, beq_dec, Int.reduceToNat, Int.reduceLT, Int.reduceLE, Int.reduceAdd, Int.reduceSub, Int.reduceMul, Int.reduceEq, Int.reduceNeg, Int.reduceNe, Int.toNat_natCast, IntKind.signed, IntKind.bits, Int.reducePow, Nat.reducePow] | (refine And.intro ?_ ?_; focus (first | (intros; omega) | (intros; simp_all; done))) | refine And.intro (?_ : CallAt _ _ _ _ _ _ _ _) ?_ | fail))
  unfold firstE poss
  cases validT n t <;> cases (ords n t).isEmpty <;> rfl
end Go.Proofs.Ytjplkpppjlgheaa

-- P p_30.txt
open Go Go.AL Go.RowKit
namespace Go.Proofs.Ytjplkpppjlgheaa
set_option maxRecDepth 20000

/-! ### two ascending lists with the same members -/
theorem asc_pw {l : List Int} {lo hi : Int} (h : asc l lo hi = true) : l.Pairwise (· < ·) := by
  rw [List.pairwise_iff_getElem]
  intro i j hi' hj hij
  have key : ∀ d, i + d < l.length → 0 < d → nth l i < nth l (i + d) := by
    intro d
    induction d with
    | zero => intro _ h; omega
    | succ d ih =>
      intro hd _
      have h1 := of_decide_eq_true h (i + (d + 1)) hd
      unfold Asc at h1
      have h2 := h1.2.2 (by omega)
      rw [show i + (d + 1) - 1 = i + d by omega] at h2
      rcases Nat.eq_zero_or_pos d with rfl | h0
      · exact h2
      · exact Int.lt_trans (ih (by omega) h0) h2
  have := key (j - i) (by omega) (by omega)
  rw [show i + (j - i) = j by omega, nth_eq l i hi', nth_eq l j hj] at this
  exact this
theorem pw_ext : ∀ {a b : List Int}, a.Pairwise (· < ·) → b.Pairwise (· < ·) → (∀ x, x ∈ a ↔ x ∈ b) → a = b
  | [], [], _, _, _ => rfl
  | [], y :: b, _, _, h => absurd ((h y).2 (by simp)) (by simp)
  | x :: a, [], _, _, h => absurd ((h x).1 (by simp)) (by simp)
  | x :: a, y :: b, ha, hb, h => by
    rw [List.pairwise_cons] at ha hb
    have h1 := (h x).1 (by simp)
    have h2 := (h y).2 (by simp)
    have e : x = y := by
      rcases List.mem_cons.1 h1 with e | h1
      · exact e
      · rcases List.mem_cons.1 h2 with e | h2
        · exact e.symm
        · have := ha.1 y h2; have := hb.1 x h1; omega
    subst e
    congr 1
    refine pw_ext ha.2 hb.2 fun z => ⟨fun hz => ?_, fun hz => ?_⟩
    · rcases List.mem_cons.1 ((h z).1 (List.mem_cons_of_mem _ hz)) with e | h'
      · have := ha.1 z hz; omega
      · exact h'
    · rcases List.mem_cons.1 ((h z).2 (List.mem_cons_of_mem _ hz)) with e | h'
      · have := hb.1 z hz; omega
      · exact h'
theorem pw_nodup {l : List Int} (h : l.Pairwise (· < ·)) : l.Nodup := h.imp fun h e => by omega

/-! ### the program's rows of a part -/
def cutP (r cols : List Int) (k : Nat) : List Int := ((r.take k).filter fun c => decide (c ∈ cols)).map (idx cols)
theorem cutP_succ (r cols : List Int) (k : Nat) (h : k < r.length) : cutP r cols (k + 1) = if nth r k ∈ cols then cutP r cols k ++ [idx cols (nth r k)] else cutP r cols k := by
  unfold cutP
  rw [List.take_succ_eq_append_getElem h, List.filter_append, List.map_append, ← nth_eq r k h]
  by_cases h : nth r k ∈ cols <;> simp [h]
theorem cutP_len (r cols : List Int) (k : Nat) : (cutP r cols k).length ≤ k := by
  unfold cutP
  rw [List.length_map]
  refine Nat.le_trans (List.length_filter_le _ _) ?_
  simp; omega
theorem idx_nth {l : List Int} (h : l.Nodup) {k : Nat} (hk : k < l.length) : idx l (nth l k) = k := by
  refine idx_found hk rfl fun j hj e => ?_
  rw [nth_eq l j (by omega), nth_eq l k hk] at e
  exact (List.pairwise_iff_getElem.1 h j k (by omega) hk hj) e
theorem cut_eq {r cols : List Int} (hr : r.Pairwise (· < ·)) (hc : cols.Pairwise (· < ·)) : cutP r cols r.length = cutN r cols cols.length := by
  have hcn := pw_nodup hc
  have mono : ∀ a b, a ∈ cols → b ∈ cols → a < b → idx cols a < idx cols b := by
    intro a b ha hb hab
    obtain ⟨i, hi, rfl⟩ := List.getElem_of_mem ha
    obtain ⟨j, hj, rfl⟩ := List.getElem_of_mem hb
    rw [← nth_eq cols i hi, ← nth_eq cols j hj, idx_nth hcn hi, idx_nth hcn hj]
    rcases Nat.lt_trichotomy i j with h | h | h
    · omega
    · subst h; omega
    · have := List.pairwise_iff_getElem.1 hc j i hj hi h; omega
  refine pw_ext ?_ ?_ fun x => ?_
  · unfold cutP
    rw [List.take_length, List.pairwise_map]
    refine (hr.filter _).imp_of_mem ?_
    intro a b ha hb hab
    simp only [List.mem_filter, decide_eq_true_eq] at ha hb
    exact mono a b ha.2 hb.2 hab
  · unfold cutN
    rw [List.pairwise_map]
    refine (List.pairwise_lt_range.filter _).imp ?_
    intro a b h; omega
  · unfold cutP cutN
    rw [List.take_length]
    simp only [List.mem_map, List.mem_filter, decide_eq_true_eq, List.mem_range]
    constructor
    · rintro ⟨c, ⟨h1, h2⟩, rfl⟩
      obtain ⟨i, hi, rfl⟩ := List.getElem_of_mem h2
      refine ⟨i, ⟨hi, ?_⟩, ?_⟩
      · rw [nth_eq cols i hi]; exact h1
      · rw [← nth_eq cols i hi, idx_nth hcn hi]
    · rintro ⟨k, ⟨h1, h2⟩, rfl⟩
      exact ⟨nth cols k, ⟨h2, nth_mem cols k h1⟩, idx_nth hcn h1⟩
theorem idx_nonneg {l : List Int} {x : Int} : 0 ≤ idx l x ↔ x ∈ l := by
  unfold idx
  split <;> simp_all
def obs (p : Int → List (List Int) → Bool) (n : Int) (t : List (List Int)) (rows cols : List Int) : Bool := decide (cutErr n t rows cols = 0) && !p cols.length (cutR n t rows cols)
theorem wo_len {l : List Int} {i : Nat} (h : i < l.length) : (wo l i).length = l.length - 1 := by unfold wo; simp; omega
/-- an obstruction, and none without one row or column -/
def minB (p : List Int → List Int → Bool) (rows cols : List Int) : Bool := p rows cols && decide (∀ i, i < rows.length → p (wo rows i) cols = false) && decide (∀ i, i < cols.length → p rows (wo cols i) = false)
theorem minB_no1 {p : List Int → List Int → Bool} {rows cols : List Int} {i : Nat} (hi : i < rows.length) (h : p (wo rows i) cols = true) : minB p rows cols = false := by
  unfold minB
  have : decide (∀ i, i < rows.length → p (wo rows i) cols = false) = false := decide_eq_false fun h' => by have := h' i hi; rw [h] at this; cases this
  rw [this]; simp
theorem minB_no2 {p : List Int → List Int → Bool} {rows cols : List Int} {i : Nat} (hi : i < cols.length) (h : p rows (wo cols i) = true) : minB p rows cols = false := by
  unfold minB
  have : decide (∀ i, i < cols.length → p rows (wo cols i) = false) = false := decide_eq_false fun h' => by have := h' i hi; rw [h] at this; cases this
  rw [this]; simp
theorem minB_no0 {p : List Int → List Int → Bool} {rows cols : List Int} (h : p rows cols = false) : minB p rows cols = false := by
  unfold minB; rw [h]; rfl
end Go.Proofs.Ytjplkpppjlgheaa

-- P p_30.txt
open Go Go.AL Go.RowKit
namespace Go.Proofs.Ytjplkpppjlgheaa
set_option maxRecDepth 20000

/-! ### the reference's orders -/
def runsN (row order : List Int) : Nat → Nat
  | 0 => 0
  | k + 1 => runsN row order k + if nth order k ∈ row ∧ (k = 0 ∨ nth order (k - 1) ∉ row) then 1 else 0
theorem runsN_le (row order : List Int) : ∀ k, runsN row order k ≤ k
  | 0 => Nat.le_refl _
  | k + 1 => by
    have := runsN_le row order k
    simp only [runsN]
    split <;> omega
def isOrd (o : List Int) (n : Int) : Bool := decide ((o.length : Int) = n ∧ ∀ i, i < o.length → 0 ≤ nth o i ∧ nth o i < n ∧ ∀ k, k < i → nth o i ≠ nth o k)
theorem isOrd_no {o : List Int} {n : Int} {i : Nat} (hi : i < o.length) (h : ¬ (0 ≤ nth o i ∧ nth o i < n ∧ ∀ k, k < i → nth o i ≠ nth o k)) : isOrd o n = false := decide_eq_false fun h' => h (h'.2 i hi)
theorem f103 (o : List Int) (n : Int) : FnR Try.prog 39 [.c (Row o), .I n] [.c (.B (isOrd o n))] := by
  refine FnR_len (pre := []) (post := [.I n]) (fnCode_callB code39) fun hl => ?_
  simp only [List.length_map, maxLen] at hl
  refine fn_walk code39 (by simp) ?_
  (repeat' (first | refine Sni.mk (fun hc => ?_) ?_ | refine AW_seq ?_ | refine AW_block ?_ | ((first | refine AW_reg ?_ | refine AW_cond ?_ | refine AW_skip ?_ | refine AW_exit ?_ | refine AW_ret ?_ | refine AW_regD (by kernel_rfl) ?_ | refine AW_regX (by kernel_rfl) ?_ | refine CallAtG.t (Eq.refl true) ?_ | refine CallAtG.f (Eq.refl false) ?_); try simp (disch := omega) only [go_sem, Nat.reduceLT, Nat.reduceAdd, Nat.reduceSub, Nat.reduceMul, Nat.reduceBEq, Nat.reduceEqDiff, Nat.reduceLeDiff, reduceCtorEq, ↓reduceIte, beq_dec, Int.reduceToNat, Int.reduceLT, Int.reduceLE, Int.reduceAdd, Int.reduceSub, Int.reduceMul, Int.reduceEq, Int.reduceNeg, Int.reduceNe, Int.toNat_natCast, IntKind.signed, IntKind.bits, Int.reducePow, Nat.reducePow]) | refine And.intro (fun hc => (?_ : AW _ _ _ _)) (fun hc => (?_ : AW _ _ _ _)) | simp (disch := omega) only [go_sem, Nat.reduceLT, Nat.reduceAdd, Nat.reduceSub, Nat.reduceMul, Nat.reduceBEq, Nat.reduceEqDiff, Nat.reduceLeDiff, reduceCtorEq, ↓reduceIte, beq_dec, Int.reduceToNat, Int.reduceLT, Int.reduceLE, Int.reduceAdd, Int.reduceSub, Int.reduceMul, Int.reduceEq, Int.reduceNeg, Int.reduceNe, Int.toNat_natCast, IntKind.signed, IntKind.bits, Int.reducePow, Nat.reducePow] | (refine And.intro ?_ ?_; focus (first | (intros; omega) | (intros; simp_all; done))) | refine And.intro (?_ : CallAt _ _ _ _ _ _ _ _) ?_ | fail))
  · symm; exact decide_eq_false (by omega)
  refine AW_loopK [0, 1] [4, 5, 6, 11, 12, 13, 14, 15, 16, 17, 18, 19, 20, 21, 22, 23, 24, 25, 26, 27, 28, 29, 30, 31, 32, 33, 34, 35, 36, 37, 38, 39, 40, 41, 42] (fun i : Nat => i ≤ o.length ∧ ∀ j, j < i → 0 ≤ nth o j ∧ nth o j < n ∧ ∀ k, k < j → nth o j ≠ nth o k) (fun i => [(5, .I i)]) (fun _ => []) (fun i => o.length - i) 0 ⟨by omega, by omega⟩ ?_ ?_
  · simp (disch := omega) only [go_sem, Nat.reduceLT, Nat.reduceAdd, Nat.reduceSub, Nat.reduceMul, Nat.reduceBEq, Nat.reduceEqDiff, Nat.reduceLeDiff, reduceCtorEq, ↓reduceIte, beq_dec, Int.reduceToNat, Int.reduceLT, Int.reduceLE, Int.reduceAdd, Int.reduceSub, Int.reduceMul, Int.reduceEq, Int.reduceNeg, Int.reduceNe, Int.toNat_natCast, IntKind.signed, IntKind.bits, Int.reducePow, Nat.reducePow, Int.natCast_zero]
  · rintro i ⟨hi, hb⟩
    (repeat' (first | refine Sni.mk (fun hc => ?_) ?_ | refine AW_seq ?_ | refine AW_block ?_ | ((first | refine AW_reg ?_ | refine AW_cond ?_ | refine AW_skip ?_ | refine AW_exit ?_ | refine AW_ret ?_ | refine AW_regD (by kernel_rfl) ?_ | refine AW_regX (by kernel_rfl) ?_ | refine CallAtG.t (Eq.refl true) ?_ | refine CallAtG.f (Eq.refl false) ?_); try simp (disch := omega) only [go_sem, Nat.reduceLT, Nat.reduceAdd, Nat.reduceSub, Nat.reduceMul, Nat.reduceBEq, Nat.reduceEqDiff, Nat.reduceLeDiff, reduceCtorEq, ↓reduceIte, beq_dec, Int.reduceToNat, Int.reduceLT, Int.reduceLE, Int.reduceAdd, Int.reduceSub, Int.reduceMul, Int.reduceEq, Int.reduceNeg, Int.reduceNe, Int.toNat_natCast, IntKind.signed, IntKind.bits, Int.reducePow, Nat.reducePow, getD_map (fun x : Int => [CD.I x])]) | refine And.intro (fun hc => (?_ : AW _ _ _ _)) (fun hc => (?_ : AW _ _ _ _)) | simp (disch := omega) only [go_sem, Nat.reduceLT, Nat.reduceAdd, Nat.reduceSub, Nat.reduceMul, Nat.reduceBEq, Nat.reduceEqDiff, Nat.reduceLeDiff, reduceCtorEq, ↓reduceIte, beq_dec, Int.reduceToNat, Int.reduceLT, Int.reduceLE, Int.reduceAdd, Int.reduceSub, Int.reduceMul, Int.reduceEq, Int.reduceNeg, Int.reduceNe, Int.toNat_natCast, IntKind.signed, IntKind.bits, Int.reducePow, Nat.reducePow, getD_map (fun x : Int => [CD.I x])] | (refine And.intro ?_ ?_; focus (first | (intros; omega) | (intros; simp_all; done))) | refine And.intro (?_ : CallAt _ _ _ _ _ _ _ _) ?_ | fail))
    · rw [isOrd_no (i := i) (by omega) (by omega)]
    · refine AW_loopK [0, 1, 5] [4, 6, 29, 30, 31, 32, 33, 34, 35, 36, 37, 38, 39, 40, 41, 42] (fun k : Nat => k ≤ i ∧ ∀ j, j < k → nth o i ≠ nth o j) (fun k => [(6, .I k)]) (fun _ => []) (fun k => i - k) 0 ⟨by omega, by omega⟩ ?_ ?_
      · simp (disch := omega) only [go_sem, Nat.reduceLT, Nat.reduceAdd, Nat.reduceSub, Nat.reduceMul, Nat.reduceBEq, Nat.reduceEqDiff, Nat.reduceLeDiff, reduceCtorEq, ↓reduceIte, beq_dec, Int.reduceToNat, Int.reduceLT, Int.reduceLE, Int.reduceAdd, Int.reduceSub, Int.reduceMul, Int.reduceEq, Int.reduceNeg, Int.reduceNe, Int.toNat_natCast, IntKind.signed, IntKind.bits, Int.reducePow, Nat.reducePow, Int.natCast_zero]
      · rintro k ⟨hk, hbk⟩
        (repeat' (first | refine Sni.mk (fun hc => ?_) ?_ | refine AW_seq ?_ | refine AW_block ?_ | ((first | refine AW_reg ?_ | refine AW_cond ?_ | refine AW_skip ?_ | refine AW_exit ?_ | refine AW_ret ?_ | refine AW_regD (by kernel_rfl) ?_ | refine AW_regX (by kernel_rfl) ?_ | refine CallAtG.t (Eq.refl true) ?_ | refine CallAtG.f (Eq.refl false) ?_); try simp (disch := omega) only [go_sem, Nat.reduceLT, Nat.reduceAdd, Nat.reduceSub, Nat.reduceMul, Nat.reduceBEq, Nat.reduceEqDiff, Nat.reduceLeDiff, reduceCtorEq, ↓reduceIte, beq_dec, Int.reduceToNat, Int.reduceLT, Int.reduceLE, Int.reduceAdd, Int.reduceSub, Int.reduceMul, Int.reduceEq, Int.reduceNeg, Int.reduceNe, Int.toNat_natCast, IntKind.signed, IntKind.bits, Int.reducePow, Nat.reducePow, getD_map (fun x : Int => [CD.I x])]) | refine And.intro (fun hc => (?_ : AW _ _ _ _)) (fun hc => (?_ : AW _ _ _ _)) | simp (disch := omega) only [go_sem, Nat.reduceLT, Nat.reduceAdd, Nat.reduceSub, Nat.reduceMul, Nat.reduceBEq, Nat.reduceEqDiff, Nat.reduceLeDiff, reduceCtorEq, ↓reduceIte, beq_dec, Int.reduceToNat, Int.reduceLT, Int.reduceLE, Int.reduceAdd, Int.reduceSub, Int.reduceMul, Int.reduceEq, Int.reduceNeg, Int.reduceNe, Int.toNat_natCast, IntKind.signed, IntKind.bits, Int.reducePow, Nat.reducePow, getD_map (fun x : Int => [CD.I x])] | (refine And.intro ?_ ?_; focus (first | (intros; omega) | (intros; simp_all; done))) | refine And.intro (?_ : CallAt _ _ _ _ _ _ _ _) ?_ | fail))
        · rw [isOrd_no (i := i) (by omega)]
          intro h
          exact h.2.2 k (by omega) (by assumption)
        · refine .mk (k + 1) ⟨by omega, step_lt hbk (by assumption)⟩ (by omega) ?_
          simp (disch := omega) only [go_sem, Nat.reduceLT, Nat.reduceAdd, Nat.reduceSub, Nat.reduceMul, Nat.reduceBEq, Nat.reduceEqDiff, Nat.reduceLeDiff, reduceCtorEq, ↓reduceIte, beq_dec, Int.reduceToNat, Int.reduceLT, Int.reduceLE, Int.reduceAdd, Int.reduceSub, Int.reduceMul, Int.reduceEq, Int.reduceNeg, Int.reduceNe, Int.toNat_natCast, IntKind.signed, IntKind.bits, Int.reducePow, Nat.reducePow, Int.natCast_add, Int.natCast_one]
        · refine .mk (i + 1) ⟨by omega, step_lt hb ⟨by omega, by omega, fun j hj => hbk j (by omega)⟩⟩ (by omega) ?_
          simp (disch := omega) only [go_sem, Nat.reduceLT, Nat.reduceAdd, Nat.reduceSub, Nat.reduceMul, Nat.reduceBEq, Nat.reduceEqDiff, Nat.reduceLeDiff, reduceCtorEq, ↓reduceIte, beq_dec, Int.reduceToNat, Int.reduceLT, Int.reduceLE, Int.reduceAdd, Int.reduceSub, Int.reduceMul, Int.reduceEq, Int.reduceNeg, Int.reduceNe, Int.toNat_natCast, IntKind.signed, IntKind.bits, Int.reducePow, Nat.reducePow, Int.natCast_add, Int.natCast_one]
    · symm; exact decide_eq_true ⟨by omega, fun j hj => hb j (by omega)⟩
def runErr (n : Int) (t : List (List Int)) (o : List Int) : Int := if validT n t = false then 1 else if isOrd o n = false then 2 else 0
def runsL (n : Int) (t : List (List Int)) (o : List Int) : List Int := if runErr n t o = 0 then t.map fun r => ((runsN r o o.length : Nat) : Int) else []
def gapN (l : List Int) : Nat → Int
  | 0 => 0
  | k + 1 => gapN l k + max (nth l k - 1) 0
theorem gapN_le {l : List Int} (h : ∀ x ∈ l, x ≤ 1000000) : ∀ k, k ≤ l.length → 0 ≤ gapN l k ∧ gapN l k ≤ k * 1000000
  | 0, _ => by simp [gapN]
  | k + 1, hk => by
    have ih := gapN_le h k (by omega)
    have := h _ (nth_mem l k (by omega))
    simp only [gapN]
    omega
def gapsV (n : Int) (t : List (List Int)) (o : List Int) : Int := gapN (runsL n t o) (runsL n t o).length
theorem runsL_len (n : Int) (t : List (List Int)) (o : List Int) : (runsL n t o).length ≤ 16 ∧ ∀ x ∈ runsL n t o, 0 ≤ x ∧ x ≤ 7 := by
  unfold runsL runErr
  cases hv : validT n t with
  | false => simp
  | true =>
    obtain ⟨h1, h2, h3, h4⟩ := validT_of hv
    cases ho : isOrd o n with
    | false => simp
    | true =>
      have ho' := of_decide_eq_true ho
      simp
      refine ⟨h3, fun r _ => ?_⟩
      have := runsN_le r o o.length
      omega
def gapless (n : Int) (t : List (List Int)) (o : List Int) : Bool := decide (runErr n t o = 0) && decide (gapsV n t o = 0)
/-- one column more -/
def extN (n : Nat) (o : List Int) : List (List Int) := ((List.range n).filter fun (v : Nat) => decide ((v : Int) ∉ o)).map fun (v : Nat) => o ++ [(v : Int)]
def lev (n : Nat) : Nat → List (List Int)
  | 0 => [[]]
  | k + 1 => (lev n k).flatMap (extN n)
theorem extN_len (n : Nat) (o : List Int) : (extN n o).length ≤ n := by
  unfold extN
  rw [List.length_map]
  exact Nat.le_trans (List.length_filter_le _ _) (by simp)
theorem flatMap_len {f : List Int → List (List Int)} {n : Nat} (h : ∀ o, (f o).length ≤ n) : ∀ l : List (List Int), (l.flatMap f).length ≤ l.length * n
  | [] => by simp
  | o :: l => by
    have h1 := flatMap_len h l
    have h2 := h o
    simp only [List.flatMap_cons, List.length_append, List.length_cons, Nat.add_mul, Nat.one_mul]
    omega
theorem lev_len {n : Nat} (hn : n ≤ 7) : ∀ k, (lev n k).length ≤ 7 ^ k
  | 0 => by simp [lev]
  | k + 1 => by
    have h1 := lev_len hn k
    have h2 := flatMap_len (extN_len n) (lev n k)
    have h3 : (lev n k).length * n ≤ 7 ^ k * 7 := Nat.mul_le_mul h1 hn
    simp only [lev, Nat.pow_succ]
    omega
theorem lev_mem_len {n : Nat} : ∀ k o, o ∈ lev n k → o.length = k
  | 0, o, h => by simp [lev] at h; subst h; rfl
  | k + 1, o, h => by
    simp only [lev, List.mem_flatMap, extN, List.mem_map] at h
    obtain ⟨b, hb, v, _, rfl⟩ := h
    have := lev_mem_len k b hb
    simp; omega
def extI (n : Nat) (o : List Int) (v : Nat) : List (List Int) := ((List.range v).filter fun (v : Nat) => decide ((v : Int) ∉ o)).map fun (v : Nat) => o ++ [(v : Int)]
theorem extI_succ (n : Nat) (o : List Int) (v : Nat) : extI n o (v + 1) = if (v : Int) ∈ o then extI n o v else extI n o v ++ [o ++ [(v : Int)]] := by
  unfold extI
  rw [List.range_succ, List.filter_append, List.map_append]
  by_cases h : (v : Int) ∈ o <;> simp [h]
theorem extI_len (n : Nat) (o : List Int) (v : Nat) : (extI n o v).length ≤ v := by
  unfold extI
  rw [List.length_map]
  exact Nat.le_trans (List.length_filter_le _ _) (by simp)
theorem take_fm {f : List Int → List (List Int)} {l : List (List Int)} {i : Nat} (h : i < l.length) : (l.take (i + 1)).flatMap f = (l.take i).flatMap f ++ f (nth l i) := by
  rw [List.take_succ_eq_append_getElem h, List.flatMap_append, nth_eq l i h]; simp
theorem take_fm_len {f : List Int → List (List Int)} {n : Nat} (h : ∀ o, (f o).length ≤ n) (l : List (List Int)) (i : Nat) : ((l.take i).flatMap f).length ≤ l.length * n := by
  refine Nat.le_trans (flatMap_len h _) (Nat.mul_le_mul_right n ?_)
  simp; omega
theorem take_filter {p : List Int → Bool} {l : List (List Int)} {i : Nat} (h : i < l.length) : (l.take (i + 1)).filter p = (l.take i).filter p ++ if p (nth l i) = true then [nth l i] else [] := by
  rw [List.take_succ_eq_append_getElem h, List.filter_append, nth_eq l i h]
  by_cases hp : p l[i] = true <;> simp [hp]
def allR (n : Int) (t : List (List Int)) : List (List Int) := (lev n.toNat n.toNat).filter fun o => gapless n t o
def possR (n : Int) (t : List (List Int)) : Bool := validT n t && !(allR n t).isEmpty
end Go.Proofs.Ytjplkpppjlgheaa

