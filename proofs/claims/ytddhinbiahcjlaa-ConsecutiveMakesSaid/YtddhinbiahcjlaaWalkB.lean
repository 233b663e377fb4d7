/-
  Lemmas for the proof: no statement of its own.
-/
import Derived.Test.YtddhinbiahcjlaaWalkA
import Derived.Test.YtddhinbiahcjlaaAlD
set_option linter.unusedVariables false
set_option linter.unusedSimpArgs false
-- P p_27s.txt
open Go Go.AL Go.RowKit
namespace Go.Proofs.Ytddhinbiahcjlaa
set_option maxRecDepth 20000

end Go.Proofs.Ytddhinbiahcjlaa

-- P p_27s.txt
open Go Go.AL Go.RowKit
namespace Go.Proofs.Ytddhinbiahcjlaa
set_option maxRecDepth 20000

/-! ### the walk over the orders -/
def fitsB (t : List (List Int)) (left : List Int) (c : Int) (k : Nat) : Bool := decide (∀ i, i < k → c ∉ nth t i → ¬ (0 < nth left i ∧ nth left i < (nth t i).length))
def nextL (t : List (List Int)) (left : List Int) (c : Int) (k : Nat) : List Int := (List.range left.length).map fun j => if j < k ∧ c ∈ nth t j then nth left j - 1 else nth left j
theorem nextL_len (t : List (List Int)) (left : List Int) (c : Int) (k : Nat) : (nextL t left c k).length = left.length := by simp [nextL]
theorem nextL_nth (t : List (List Int)) (left : List Int) (c : Int) (k j : Nat) (h : j < left.length) : nth (nextL t left c k) j = if j < k ∧ c ∈ nth t j then nth left j - 1 else nth left j := by
  rw [nth_eq _ j (by rw [nextL_len]; exact h)]
  simp [nextL]
theorem nextL_zero (t : List (List Int)) (left : List Int) (c : Int) : nextL t left c 0 = left := by
  refine nth_ext (nextL_len ..) fun j hj => ?_
  rw [nextL_nth t left c 0 j (by rw [nextL_len] at hj; exact hj)]
  simp
theorem nextL_in (t : List (List Int)) (left : List Int) (c : Int) (k : Nat) (hk : k < left.length) (h : c ∈ nth t k) : nextL t left c (k + 1) = (nextL t left c k).set k (nth left k - 1) := by
  refine List.ext_getElem (by simp [nextL]) fun j h1 h2 => ?_
  have hj : j < left.length := by simpa [nextL] using h1
  rw [List.getElem_set]
  simp only [nextL, List.getElem_map, List.getElem_range]
  by_cases e : k = j
  · subst e; simp [h]
  · rw [if_neg e]
    have : j < k + 1 ↔ j < k := by omega
    simp [this]
theorem nextL_out (t : List (List Int)) (left : List Int) (c : Int) (k : Nat) (h : c ∉ nth t k) : nextL t left c (k + 1) = nextL t left c k := by
  unfold nextL
  refine List.map_congr_left fun j _ => ?_
  by_cases e : j = k
  · subst e; simp [h]
  · have : j < k + 1 ↔ j < k := by omega
    simp [this]
theorem fitsB_succ (t : List (List Int)) (left : List Int) (c : Int) (k : Nat) : fitsB t left c (k + 1) = (fitsB t left c k && (decide (c ∈ nth t k) || !(decide (0 < nth left k) && decide (nth left k < (nth t k).length)))) := by
  unfold fitsB
  rw [Bool.eq_iff_iff]
  simp only [decide_eq_true_eq, Bool.and_eq_true, Bool.or_eq_true, Bool.not_eq_true', Bool.and_eq_false_iff, decide_eq_false_iff_not]
  constructor
  · intro h
    refine ⟨fun i hi => h i (by omega), ?_⟩
    have := h k (by omega)
    by_cases hc : c ∈ nth t k
    · exact .inl hc
    · exact .inr (by have := this hc; omega)
  · rintro ⟨h1, h2⟩ i hi hc
    rcases Nat.lt_succ_iff_lt_or_eq.1 hi with h' | rfl
    · exact h1 i h' hc
    · rcases h2 with h2 | h2
      · exact absurd h2 hc
      · omega

/-- the orders that go on from some columns -/
def walks (n : Nat) (t : List (List Int)) : Nat → List Int → List Int → List (List Int)
  | 0, b, _ => [b]
  | k + 1, b, left => (List.range n).flatMap fun (c : Nat) => if (c : Int) ∈ b ∨ fitsB t left c t.length = false then [] else walks n t k (b ++ [(c : Int)]) (nextL t left c t.length)
def br (n : Nat) (t : List (List Int)) (k : Nat) (b left : List Int) (c : Nat) : List (List Int) := if (c : Int) ∈ b ∨ fitsB t left c t.length = false then [] else walks n t k (b ++ [(c : Int)]) (nextL t left c t.length)
theorem walks_succ (n : Nat) (t : List (List Int)) (k : Nat) (b left : List Int) : walks n t (k + 1) b left = (List.range n).flatMap (br n t k b left) := rfl
def fo : List (List Int) → CD
  | [] => .nil
  | o :: _ => Row o
theorem flatMap_first {f : Nat → List (List Int)} {n c : Nat} (hc : c < n) (h : ∀ j, j < c → f j = []) (hne : f c ≠ []) : fo ((List.range n).flatMap f) = fo (f c) ∧ ((List.range n).flatMap f).isEmpty = false := by
  have e : List.range n = List.range c ++ c :: (List.range' (c + 1) (n - c - 1)) := by
    have h1 : c :: List.range' (c + 1) (n - c - 1) = List.range' c (n - c) := by
      rw [show n - c = (n - c - 1) + 1 by omega, List.range'_succ]; rfl
    rw [h1, List.range_eq_range', List.range_eq_range']
    have := List.range'_append_1 (s := 0) (m := c) (n := n - c)
    simp only [Nat.zero_add] at this
    rw [this]; congr 1; omega
  have h0 : (List.range c).flatMap f = [] := by
    rw [List.flatMap_eq_nil_iff]
    intro j hj
    exact h j (List.mem_range.1 hj)
  rw [e, List.flatMap_append, h0, List.nil_append, List.flatMap_cons]
  cases hf : f c with
  | nil => exact absurd hf hne
  | cons o r => exact ⟨rfl, rfl⟩
theorem f99 (d a : CD) (b : Bool) : FnW Try.prog 23 [.c d, .ptr 1000006 0, .ptr 1000007 0] [(1000006, .box 31 [.c a]), (1000007, .box 4 [.B b])] [.c (.B false)] [(1000006, .box 31 [.c d]), (1000007, .box 4 [.B true])] [1000006, 1000007] := by
  refine fn_walkW code23 (by simp) (by rfl) ?_
  (repeat' (first | refine NextAt.mk (fun hc => ?_) (fun pre n v post hc hkey => ?_) | refine Sni.mk (fun hc => ?_) ?_ | refine Both.mk ?_ ?_ | refine AW_seq ?_ | refine AW_block ?_ | ((first | refine AW_reg ?_ | refine AW_cond ?_ | refine AW_skip ?_ | refine AW_exit ?_ | refine AW_ret ?_ | refine AW_regD (by kernel_rfl) ?_ | refine AW_regX (by kernel_rfl) ?_ | refine CallAtG.t (Eq.refl true) ?_ | refine CallAtG.f (Eq.refl false) ?_); try simp (disch := omega) only [go_sem, seval, reduceCtorEq, ↓reduceIte, beq_dec, Int.toNat_natCast, IntKind.signed, IntKind.bits]) | refine And.intro (fun hc => (?_ : AW _ _ _ _)) (fun hc => (?_ : AW _ _ _ _)) | simp (disch := omega) only [go_sem, seval, reduceCtorEq, ↓reduceIte, beq_dec, Int.toNat_natCast, IntKind.signed, IntKind.bits] | (refine And.intro ?_ ?_; focus (first | (intros; omega) | (intros; simp_all; done))) | refine And.intro (?_ : CallAt _ _ _ _ _ _ _ _) ?_ | refine And.intro (?_ : CallAt _ _ _ _ _ _ _ _ ∧ _) ?_ | refine And.intro (?_ : AW _ _ _ _) ?_ | fail))
abbrev vF : AV := .fn 23 [.ptr 1000006 0, .ptr 1000007 0]
structure Wok (n k : Nat) (t : List (List Int)) (b left : List Int) : Prop where
  hb : b.length + k = n
  hn : n ≤ 7
  ht : t.length ≤ 16
  hr : ∀ i, i < t.length → (nth t i).length ≤ 1000
  hl : left.length = t.length
  hv : ∀ i, i < t.length → (k : Int) - 1000 ≤ nth left i ∧ nth left i ≤ 1000
set_option maxHeartbeats 4000000 in
theorem f130F (n : Nat) (t : List (List Int)) : ∀ (k : Nat) (b left : List Int), Wok n k t b left → FnW Try.prog 36 [.I n, .c (Tab t), .c (Row b), .c (Row left), vF] [(1000006, .box 31 [.c .nil]), (1000007, .box 4 [.B false])]
    [.c (.B (walks n t k b left).isEmpty)] [(1000006, .box 31 [.c (fo (walks n t k b left))]), (1000007, .box 4 [.B (!(walks n t k b left).isEmpty)])] [1000006, 1000007]
  | 0, b, left, ⟨hb, hn, ht, hr, hl, hv⟩ => by
    have g99 := f99 (Row b) .nil false
    refine fn_walkW code36 (by simp) (by rfl) ?_
    (repeat' (first | refine NextAt.mk (fun hc => ?_) (fun pre n v post hc hkey => ?_) | refine Sni.mk (fun hc => ?_) ?_ | refine Both.mk ?_ ?_ | refine AW_seq ?_ | refine AW_block ?_ | ((first | refine AW_reg ?_ | refine AW_cond ?_ | refine AW_skip ?_ | refine AW_exit ?_ | refine AW_ret ?_ | refine AW_regD (by kernel_rfl) ?_ | refine AW_regX (by kernel_rfl) ?_ | refine CallAt.mkW (g99 ..) (by rfl) (by simp (disch := omega) only [go_sem, seval, reduceCtorEq, ↓reduceIte, beq_dec, Int.toNat_natCast, IntKind.signed, IntKind.bits]) (by rfl) (by rfl) (by first | (intro h; cases h; done) | (intro _; simp [RV.flatP, CD.flatP, flatOb, AO.flatP]; done)) ?_ | refine CallAtG.t (Eq.refl true) ?_ | refine CallAtG.f (Eq.refl false) ?_); try simp (disch := omega) only [go_sem, seval, reduceCtorEq, ↓reduceIte, beq_dec, Int.toNat_natCast, IntKind.signed, IntKind.bits]) | refine And.intro (fun hc => (?_ : AW _ _ _ _)) (fun hc => (?_ : AW _ _ _ _)) | simp (disch := omega) only [go_sem, seval, reduceCtorEq, ↓reduceIte, beq_dec, Int.toNat_natCast, IntKind.signed, IntKind.bits] | (refine And.intro ?_ ?_; focus (first | (intros; omega) | (intros; simp_all; done))) | refine And.intro (?_ : CallAt _ _ _ _ _ _ _ _) ?_ | refine And.intro (?_ : CallAt _ _ _ _ _ _ _ _ ∧ _) ?_ | refine And.intro (?_ : AW _ _ _ _) ?_ | fail))
    · exact ⟨rfl, rfl, rfl⟩
    · omega
  | k + 1, b, left, ⟨hb, hn, ht, hr, hl, hv⟩ => by
    have ih := f130F n t k
    have g96 := f96 left (by omega)
    have g96b := f96 b (by omega)
    refine fn_walkW code36 (by simp) (by rfl) ?_
    (repeat' (first | refine NextAt.mk (fun hc => ?_) (fun pre n v post hc hkey => ?_) | refine Sni.mk (fun hc => ?_) ?_ | refine Both.mk ?_ ?_ | refine AW_seq ?_ | refine AW_block ?_ | ((first | refine AW_reg ?_ | refine AW_cond ?_ | refine AW_skip ?_ | refine AW_exit ?_ | refine AW_ret ?_ | refine AW_regD (by kernel_rfl) ?_ | refine AW_regX (by kernel_rfl) ?_ | refine CallAtG.t (Eq.refl true) ?_ | refine CallAtG.f (Eq.refl false) ?_); try simp (disch := omega) only [go_sem, seval, reduceCtorEq, ↓reduceIte, beq_dec, Int.toNat_natCast, IntKind.signed, IntKind.bits]) | refine And.intro (fun hc => (?_ : AW _ _ _ _)) (fun hc => (?_ : AW _ _ _ _)) | simp (disch := omega) only [go_sem, seval, reduceCtorEq, ↓reduceIte, beq_dec, Int.toNat_natCast, IntKind.signed, IntKind.bits] | (refine And.intro ?_ ?_; focus (first | (intros; omega) | (intros; simp_all; done))) | refine And.intro (?_ : CallAt _ _ _ _ _ _ _ _) ?_ | refine And.intro (?_ : CallAt _ _ _ _ _ _ _ _ ∧ _) ?_ | refine And.intro (?_ : AW _ _ _ _) ?_ | fail))
    · omega
    rw [walks_succ]
    refine AW_loopK [0, 1, 2, 3, 4, 23] [10, 11, 12, 13, 14, 15, 24, 25, 26, 27, 28, 29, 30, 31, 32, 33, 34, 35, 36, 37, 38, 39, 40, 41, 42, 43, 44, 45, 46, 47, 48, 49, 50, 51, 52, 53, 54, 55, 56, 57, 58, 59, 60, 61, 62, 63, 64, 65, 66, 67, 68, 69, 70, 71, 72, 73, 74, 75, 76, 77] (fun c : Nat => c ≤ n ∧ ∀ j, j < c → br n t k b left j = []) (fun c => [(24, .I c)]) (fun _ => []) (fun c => n - c) 0 ⟨by omega, by omega⟩ ?_ ?_
    · simp (disch := omega) only [go_sem, seval, reduceCtorEq, ↓reduceIte, beq_dec, Int.toNat_natCast, IntKind.signed, IntKind.bits, Int.natCast_zero]
    · rintro c ⟨hc, hbr⟩
      (repeat' (first | refine NextAt.mk (fun hc => ?_) (fun pre n v post hc hkey => ?_) | refine Sni.mk (fun hc => ?_) ?_ | refine Both.mk ?_ ?_ | refine AW_seq ?_ | refine AW_block ?_ | ((first | refine AW_reg ?_ | refine AW_cond ?_ | refine AW_skip ?_ | refine AW_exit ?_ | refine AW_ret ?_ | refine AW_regD (by kernel_rfl) ?_ | refine AW_regX (by kernel_rfl) ?_ | refine CallAtG.t (Eq.refl true) ?_ | refine CallAtG.f (Eq.refl false) ?_ | refine CallAt.mk _ (f116 ..) (by first | (intro h; cases h; done) | (intro _; repeat' (first | exact List.forall_mem_nil _ | trivial | refine List.forall_mem_cons.2 ⟨?_, ?_⟩)) | (intro _; simp [RV.flatP, CD.flatP]; done)) ?_ | refine CallAtG.mk _ (fun _ => f116 ..) ?_ | refine CallDS.mk _ (by simp [RV.data]) (fun _ => f116 ..) (by first | (intro h; cases h; done) | (intro _; repeat' (first | exact List.forall_mem_nil _ | trivial | refine List.forall_mem_cons.2 ⟨?_, ?_⟩)) | (intro _; simp [RV.flatP, CD.flatP]; done)) ?_ | refine CallAt.mk _ (g96 ..) (by first | (intro h; cases h; done) | (intro _; repeat' (first | exact List.forall_mem_nil _ | trivial | refine List.forall_mem_cons.2 ⟨?_, ?_⟩)) | (intro _; simp [RV.flatP, CD.flatP]; done)) ?_ | refine CallAtG.mk _ (fun _ => g96 ..) ?_ | refine CallDS.mk _ (by simp [RV.data]) (fun _ => g96 ..) (by first | (intro h; cases h; done) | (intro _; repeat' (first | exact List.forall_mem_nil _ | trivial | refine List.forall_mem_cons.2 ⟨?_, ?_⟩)) | (intro _; simp [RV.flatP, CD.flatP]; done)) ?_); try simp (disch := omega) only [go_sem, seval, reduceCtorEq, ↓reduceIte, beq_dec, Int.toNat_natCast, IntKind.signed, IntKind.bits]) | refine And.intro (fun hc => (?_ : AW _ _ _ _)) (fun hc => (?_ : AW _ _ _ _)) | simp (disch := omega) only [go_sem, seval, reduceCtorEq, ↓reduceIte, beq_dec, Int.toNat_natCast, IntKind.signed, IntKind.bits] | (refine And.intro ?_ ?_; focus (first | (intros; omega) | (intros; simp_all; done))) | refine And.intro (?_ : CallAt _ _ _ _ _ _ _ _) ?_ | refine And.intro (?_ : CallAt _ _ _ _ _ _ _ _ ∧ _) ?_ | refine And.intro (?_ : AW _ _ _ _) ?_ | fail))
      · -- the column stands already
        refine .mk (c + 1) ⟨by omega, step_lt hbr (by unfold br; rw [if_pos (.inl (by assumption))])⟩ (by omega) ?_
        simp (disch := omega) only [go_sem, seval, reduceCtorEq, ↓reduceIte, beq_dec, Int.toNat_natCast, IntKind.signed, IntKind.bits, Int.natCast_add, Int.natCast_one]
      · refine AW_loopK [0, 1, 2, 3, 4, 11, 12, 23, 24, 32, 33] [13, 14, 15, 34, 35, 36, 37, 38, 39, 40, 41, 42, 43, 44, 45, 46, 47, 48, 49, 50, 51, 52, 53, 54, 55, 56, 57, 58, 59, 60, 61, 62] (fun i : Nat => i ≤ t.length) (fun i => [(34, .I i), (12, .own 31), (13, .B (fitsB t left c i))]) (fun i => [(31, .arr 3 1 ((nextL t left c i).map fun x => [CD.I x]))]) (fun i => t.length - i) 0 (by omega) ?_ ?_
        · simp (disch := omega) only [go_sem, seval, reduceCtorEq, ↓reduceIte, beq_dec, Int.toNat_natCast, IntKind.signed, IntKind.bits, Int.natCast_zero, nextL_zero]
          simp [fitsB]
        · intro i hi
          have hvi := hv i
          have hnl := nextL_len t left c i
          have e0 : i < left.length → nth (nextL t left c i) i = nth left i := fun h => by rw [nextL_nth t left c i i h]; simp
          (repeat' (first | refine NextAt.mk (fun hc => ?_) (fun pre n v post hc hkey => ?_) | refine Sni.mk (fun hc => ?_) ?_ | refine Both.mk ?_ ?_ | refine AW_seq ?_ | refine AW_block ?_ | ((first | refine AW_reg ?_ | refine AW_cond ?_ | refine AW_skip ?_ | refine AW_exit ?_ | refine AW_ret ?_ | refine AW_regD (by kernel_rfl) ?_ | refine AW_regX (by kernel_rfl) ?_ | refine CallAtG.t (Eq.refl true) ?_ | refine CallAtG.f (Eq.refl false) ?_ | refine CallAt.mk _ (f116 ..) (by first | (intro h; cases h; done) | (intro _; repeat' (first | exact List.forall_mem_nil _ | trivial | refine List.forall_mem_cons.2 ⟨?_, ?_⟩)) | (intro _; simp [RV.flatP, CD.flatP, getD_map (fun r : List Int => [Row r]), getD_map (fun x : Int => [CD.I x]), nextL_len, hl, e0]; done)) ?_ | refine CallAtG.mk _ (fun _ => f116 ..) ?_ | refine CallDS.mk _ (by simp [RV.data]) (fun _ => f116 ..) (by first | (intro h; cases h; done) | (intro _; repeat' (first | exact List.forall_mem_nil _ | trivial | refine List.forall_mem_cons.2 ⟨?_, ?_⟩)) | (intro _; simp [RV.flatP, CD.flatP, getD_map (fun r : List Int => [Row r]), getD_map (fun x : Int => [CD.I x]), nextL_len, hl, e0]; done)) ?_); try simp (disch := omega) only [go_sem, seval, reduceCtorEq, ↓reduceIte, beq_dec, Int.toNat_natCast, IntKind.signed, IntKind.bits, getD_map (fun r : List Int => [Row r]), getD_map (fun x : Int => [CD.I x]), nextL_len, hl, e0]) | refine And.intro (fun hc => (?_ : AW _ _ _ _)) (fun hc => (?_ : AW _ _ _ _)) | simp (disch := omega) only [go_sem, seval, reduceCtorEq, ↓reduceIte, beq_dec, Int.toNat_natCast, IntKind.signed, IntKind.bits, getD_map (fun r : List Int => [Row r]), getD_map (fun x : Int => [CD.I x]), nextL_len, hl, e0] | (refine And.intro ?_ ?_; focus (first | (intros; omega) | (intros; simp_all; done))) | refine And.intro (?_ : CallAt _ _ _ _ _ _ _ _) ?_ | refine And.intro (?_ : CallAt _ _ _ _ _ _ _ _ ∧ _) ?_ | refine And.intro (?_ : AW _ _ _ _) ?_ | fail))
          · refine .mk (i + 1) (by omega) (by omega) ?_
            have e1 : fitsB t left c (i + 1) = fitsB t left c i := by rw [fitsB_succ]; simp_all
            simp (disch := omega) only [go_sem, seval, reduceCtorEq, ↓reduceIte, beq_dec, Int.toNat_natCast, IntKind.signed, IntKind.bits, Int.natCast_add, Int.natCast_one, e1, nextL_in t left c i (by omega) (by assumption), List.map_set]
          · refine .mk (i + 1) (by omega) (by omega) ?_
            have e1 : fitsB t left c (i + 1) = false := by rw [fitsB_succ]; simp_all
            simp (disch := omega) only [go_sem, seval, reduceCtorEq, ↓reduceIte, beq_dec, Int.toNat_natCast, IntKind.signed, IntKind.bits, Int.natCast_add, Int.natCast_one, e1, nextL_out t left c i (by assumption)]
          · refine .mk (i + 1) (by omega) (by omega) ?_
            have e1 : fitsB t left c (i + 1) = fitsB t left c i := by rw [fitsB_succ]; simp_all
            simp (disch := omega) only [go_sem, seval, reduceCtorEq, ↓reduceIte, beq_dec, Int.toNat_natCast, IntKind.signed, IntKind.bits, Int.natCast_add, Int.natCast_one, e1, nextL_out t left c i (by assumption)]
          · have hi' : i = t.length := by omega
            subst hi'
            cases hf : fitsB t left c t.length with
            | false =>
              (repeat' (first | refine NextAt.mk (fun hc => ?_) (fun pre n v post hc hkey => ?_) | refine Sni.mk (fun hc => ?_) ?_ | refine Both.mk ?_ ?_ | refine AW_seq ?_ | refine AW_block ?_ | ((first | refine AW_reg ?_ | refine AW_cond ?_ | refine AW_skip ?_ | refine AW_exit ?_ | refine AW_ret ?_ | refine AW_regD (by kernel_rfl) ?_ | refine AW_regX (by kernel_rfl) ?_ | refine CallAtG.t (Eq.refl true) ?_ | refine CallAtG.f (Eq.refl false) ?_); try simp (disch := omega) only [go_sem, seval, reduceCtorEq, ↓reduceIte, beq_dec, Int.toNat_natCast, IntKind.signed, IntKind.bits]) | refine And.intro (fun hc => (?_ : AW _ _ _ _)) (fun hc => (?_ : AW _ _ _ _)) | simp (disch := omega) only [go_sem, seval, reduceCtorEq, ↓reduceIte, beq_dec, Int.toNat_natCast, IntKind.signed, IntKind.bits] | (refine And.intro ?_ ?_; focus (first | (intros; omega) | (intros; simp_all; done))) | refine And.intro (?_ : CallAt _ _ _ _ _ _ _ _) ?_ | refine And.intro (?_ : CallAt _ _ _ _ _ _ _ _ ∧ _) ?_ | refine And.intro (?_ : AW _ _ _ _) ?_ | fail))
              refine .mk (c + 1) ⟨by omega, step_lt hbr (by unfold br; rw [if_pos (.inr hf)])⟩ (by omega) ?_
              simp (disch := omega) only [go_sem, seval, reduceCtorEq, ↓reduceIte, beq_dec, Int.toNat_natCast, IntKind.signed, IntKind.bits, Int.natCast_add, Int.natCast_one]
            | true =>
              have hbrc : br n t k b left c = walks n t k (b ++ [(c : Int)]) (nextL t left c t.length) := by
                unfold br; rw [if_neg]; rw [hf]; simp; assumption
              have g := ih (b ++ [(c : Int)]) (nextL t left c t.length) ⟨by simp; omega, hn, ht, hr, by omega, fun i hi => by
                rw [nextL_nth t left c _ i (by omega)]
                have := hv i hi
                split <;> omega⟩
              simp only [Row, List.map_append, List.map_cons, List.map_nil] at g
              rw [← hbrc] at g
              (repeat' (first | refine NextAt.mk (fun hc => ?_) (fun pre n v post hc hkey => ?_) | refine Sni.mk (fun hc => ?_) ?_ | refine Both.mk ?_ ?_ | refine AW_seq ?_ | refine AW_block ?_ | ((first | refine AW_reg ?_ | refine AW_cond ?_ | refine AW_skip ?_ | refine AW_exit ?_ | refine AW_ret ?_ | refine AW_regD (by kernel_rfl) ?_ | refine AW_regX (by kernel_rfl) ?_ | refine CallAtG.t (Eq.refl true) ?_ | refine CallAtG.f (Eq.refl false) ?_ | refine CallAt.mk _ (g96b ..) (by first | (intro h; cases h; done) | (intro _; repeat' (first | exact List.forall_mem_nil _ | trivial | refine List.forall_mem_cons.2 ⟨?_, ?_⟩)) | (intro _; simp [RV.flatP, CD.flatP, maxLen]; done)) ?_ | refine CallAtG.mk _ (fun _ => g96b ..) ?_ | refine CallDS.mk _ (by simp [RV.data]) (fun _ => g96b ..) (by first | (intro h; cases h; done) | (intro _; repeat' (first | exact List.forall_mem_nil _ | trivial | refine List.forall_mem_cons.2 ⟨?_, ?_⟩)) | (intro _; simp [RV.flatP, CD.flatP, maxLen]; done)) ?_); try simp (disch := omega) only [go_sem, seval, reduceCtorEq, ↓reduceIte, beq_dec, Int.toNat_natCast, IntKind.signed, IntKind.bits, maxLen]) | refine And.intro (fun hc => (?_ : AW _ _ _ _)) (fun hc => (?_ : AW _ _ _ _)) | simp (disch := omega) only [go_sem, seval, reduceCtorEq, ↓reduceIte, beq_dec, Int.toNat_natCast, IntKind.signed, IntKind.bits, maxLen] | (refine And.intro ?_ ?_; focus (first | (intros; omega) | (intros; simp_all; done))) | refine And.intro (?_ : CallAt _ _ _ _ _ _ _ _) ?_ | refine And.intro (?_ : CallAt _ _ _ _ _ _ _ _ ∧ _) ?_ | refine And.intro (?_ : AW _ _ _ _) ?_ | fail))
              refine CallAt.frz [31, 68] ?_
              simp (disch := omega) only [go_sem, seval, reduceCtorEq, ↓reduceIte, beq_dec, Int.toNat_natCast, IntKind.signed, IntKind.bits]
              cases hr : br n t k b left c with
              | nil =>
                rw [hr] at g
                simp only [List.isEmpty_nil, Bool.not_true, fo] at g
                (repeat' (first | refine NextAt.mk (fun hc => ?_) (fun pre n v post hc hkey => ?_) | refine Sni.mk (fun hc => ?_) ?_ | refine Both.mk ?_ ?_ | refine AW_seq ?_ | refine AW_block ?_ | ((first | refine AW_reg ?_ | refine AW_cond ?_ | refine AW_skip ?_ | refine AW_exit ?_ | refine AW_ret ?_ | refine AW_regD (by kernel_rfl) ?_ | refine AW_regX (by kernel_rfl) ?_ | refine CallAt.mkW (g ..) (by rfl) (by simp (disch := omega) only [go_sem, seval, reduceCtorEq, ↓reduceIte, beq_dec, Int.toNat_natCast, IntKind.signed, IntKind.bits]) (by rfl) (by rfl) (by first | (intro h; cases h; done) | (intro _; simp [RV.flatP, CD.flatP, flatOb, AO.flatP]; done)) ?_ | refine CallAtG.t (Eq.refl true) ?_ | refine CallAtG.f (Eq.refl false) ?_); try simp (disch := omega) only [go_sem, seval, reduceCtorEq, ↓reduceIte, beq_dec, Int.toNat_natCast, IntKind.signed, IntKind.bits]) | refine And.intro (fun hc => (?_ : AW _ _ _ _)) (fun hc => (?_ : AW _ _ _ _)) | simp (disch := omega) only [go_sem, seval, reduceCtorEq, ↓reduceIte, beq_dec, Int.toNat_natCast, IntKind.signed, IntKind.bits] | (refine And.intro ?_ ?_; focus (first | (intros; omega) | (intros; simp_all; done))) | refine And.intro (?_ : CallAt _ _ _ _ _ _ _ _) ?_ | refine And.intro (?_ : CallAt _ _ _ _ _ _ _ _ ∧ _) ?_ | refine And.intro (?_ : AW _ _ _ _) ?_ | fail))
                refine .mk (c + 1) ⟨by omega, step_lt hbr hr⟩ (by omega) ?_
                simp (disch := omega) only [go_sem, seval, reduceCtorEq, ↓reduceIte, beq_dec, Int.toNat_natCast, IntKind.signed, IntKind.bits, Int.natCast_add, Int.natCast_one]
              | cons o r =>
                rw [hr] at g
                simp only [List.isEmpty_cons, Bool.not_false] at g
                (repeat' (first | refine NextAt.mk (fun hc => ?_) (fun pre n v post hc hkey => ?_) | refine Sni.mk (fun hc => ?_) ?_ | refine Both.mk ?_ ?_ | refine AW_seq ?_ | refine AW_block ?_ | ((first | refine AW_reg ?_ | refine AW_cond ?_ | refine AW_skip ?_ | refine AW_exit ?_ | refine AW_ret ?_ | refine AW_regD (by kernel_rfl) ?_ | refine AW_regX (by kernel_rfl) ?_ | refine CallAt.mkW (g ..) (by rfl) (by simp (disch := omega) only [go_sem, seval, reduceCtorEq, ↓reduceIte, beq_dec, Int.toNat_natCast, IntKind.signed, IntKind.bits]) (by rfl) (by rfl) (by first | (intro h; cases h; done) | (intro _; simp [RV.flatP, CD.flatP, flatOb, AO.flatP]; done)) ?_ | refine CallAtG.t (Eq.refl true) ?_ | refine CallAtG.f (Eq.refl false) ?_); try simp (disch := omega) only [go_sem, seval, reduceCtorEq, ↓reduceIte, beq_dec, Int.toNat_natCast, IntKind.signed, IntKind.bits]) | refine And.intro (fun hc => (?_ : AW _ _ _ _)) (fun hc => (?_ : AW _ _ _ _)) | simp (disch := omega) only [go_sem, seval, reduceCtorEq, ↓reduceIte, beq_dec, Int.toNat_natCast, IntKind.signed, IntKind.bits] | (refine And.intro ?_ ?_; focus (first | (intros; omega) | (intros; simp_all; done))) | refine And.intro (?_ : CallAt _ _ _ _ _ _ _ _) ?_ | refine And.intro (?_ : CallAt _ _ _ _ _ _ _ _ ∧ _) ?_ | refine And.intro (?_ : AW _ _ _ _) ?_ | fail))
                obtain ⟨q1, q2⟩ := flatMap_first (f := br n t k b left) (n := n) (c := c) (by omega) hbr (by rw [hr]; simp)
                rw [q1, q2, hr]
                exact ⟨rfl, rfl, rfl⟩
      · rw [show c = n by omega] at hbr
        have e : (List.range n).flatMap (br n t k b left) = [] := by
          rw [List.flatMap_eq_nil_iff]
          intro j hj
          exact hbr j (List.mem_range.1 hj)
        rw [e]
        exact ⟨rfl, rfl, rfl⟩

/-! ### what it makes -/
theorem tab_ok {n : Int} {t : List (List Int)} (h : validT n t = true) : 0 ≤ n ∧ n ≤ 7 ∧ t.length ≤ 16 ∧ ∀ i, i < t.length → (nth t i).length ≤ 7 := by
  obtain ⟨h1, h2, h3, h4⟩ := validT_of h
  refine ⟨h1, h2, h3, fun i hi => ?_⟩
  have := asc_len (h4 i hi)
  omega
theorem f97F (n : Int) (t : List (List Int)) (h : validT n t = true) : FnW Try.prog 22 [.I n, .c (Tab t), vF] [(1000006, .box 31 [.c .nil]), (1000007, .box 4 [.B false])]
    [] [(1000006, .box 31 [.c (fo (walks n.toNat t n.toNat [] (t.map fun r => (r.length : Int))))]), (1000007, .box 4 [.B (!(walks n.toNat t n.toNat [] (t.map fun r => (r.length : Int))).isEmpty)])] [1000006, 1000007] := by
  obtain ⟨h1, h2, h3, h4⟩ := tab_ok h
  obtain ⟨m, rfl⟩ : ∃ m : Nat, n = m := ⟨n.toNat, by omega⟩
  simp only [Int.toNat_natCast]
  have hnth : ∀ i, i < t.length → nth (t.map fun r => (r.length : Int)) i = ((nth t i).length : Int) := fun i hi => by
    rw [nth_eq _ i (by simpa using hi), nth_eq _ i hi]; simp
  have g130 := f130F m t m [] (t.map fun r => (r.length : Int)) ⟨by simp, by omega, h3, fun i hi => by have := h4 i hi; omega, by simp, fun i hi => by
    rw [hnth i hi]
    have := h4 i hi
    omega⟩
  refine fn_walkW code22 (by simp) (by rfl) ?_
  (repeat' (first | refine NextAt.mk (fun hc => ?_) (fun pre n v post hc hkey => ?_) | refine Sni.mk (fun hc => ?_) ?_ | refine Both.mk ?_ ?_ | refine AW_seq ?_ | refine AW_block ?_ | ((first | refine AW_reg ?_ | refine AW_cond ?_ | refine AW_skip ?_ | refine AW_exit ?_ | refine AW_ret ?_ | refine AW_regD (by kernel_rfl) ?_ | refine AW_regX (by kernel_rfl) ?_ | refine CallAtG.t (Eq.refl true) ?_ | refine CallAtG.f (Eq.refl false) ?_); try simp (disch := omega) only [go_sem, seval, reduceCtorEq, ↓reduceIte, beq_dec, Int.toNat_natCast, IntKind.signed, IntKind.bits]) | refine And.intro (fun hc => (?_ : AW _ _ _ _)) (fun hc => (?_ : AW _ _ _ _)) | simp (disch := omega) only [go_sem, seval, reduceCtorEq, ↓reduceIte, beq_dec, Int.toNat_natCast, IntKind.signed, IntKind.bits] | (refine And.intro ?_ ?_; focus (first | (intros; omega) | (intros; simp_all; done))) | refine And.intro (?_ : CallAt _ _ _ _ _ _ _ _) ?_ | refine And.intro (?_ : CallAt _ _ _ _ _ _ _ _ ∧ _) ?_ | refine And.intro (?_ : AW _ _ _ _) ?_ | fail))
  refine AW_nil 6 900 3 1 (by rfl) ?_
  refine AW_loopK [0, 1, 2, 9, 10] [6, 8, 11, 12, 13, 14, 15, 16, 17, 18, 19, 20] (fun i : Nat => i ≤ t.length) (fun i => [(11, .I i), (6, .own 900)]) (fun i => [(900, .arr 3 1 (((t.take i).map fun r => (r.length : Int)).map fun x => [CD.I x]))]) (fun i => t.length - i) 0 (by omega) ?_ ?_
  · simp (disch := omega) only [go_sem, seval, reduceCtorEq, ↓reduceIte, beq_dec, Int.toNat_natCast, IntKind.signed, IntKind.bits, Int.natCast_zero]
  · intro i hi
    (repeat' (first | refine NextAt.mk (fun hc => ?_) (fun pre n v post hc hkey => ?_) | refine Sni.mk (fun hc => ?_) ?_ | refine Both.mk ?_ ?_ | refine AW_seq ?_ | refine AW_block ?_ | ((first | refine AW_reg ?_ | refine AW_cond ?_ | refine AW_skip ?_ | refine AW_exit ?_ | refine AW_ret ?_ | refine AW_regD (by kernel_rfl) ?_ | refine AW_regX (by kernel_rfl) ?_ | refine CallAtG.t (Eq.refl true) ?_ | refine CallAtG.f (Eq.refl false) ?_); try simp (disch := omega) only [go_sem, seval, reduceCtorEq, ↓reduceIte, beq_dec, Int.toNat_natCast, IntKind.signed, IntKind.bits, maxLen, getD_map (fun r : List Int => [Row r]), List.length_take]) | refine And.intro (fun hc => (?_ : AW _ _ _ _)) (fun hc => (?_ : AW _ _ _ _)) | simp (disch := omega) only [go_sem, seval, reduceCtorEq, ↓reduceIte, beq_dec, Int.toNat_natCast, IntKind.signed, IntKind.bits, maxLen, getD_map (fun r : List Int => [Row r]), List.length_take] | (refine And.intro ?_ ?_; focus (first | (intros; omega) | (intros; simp_all; done))) | refine And.intro (?_ : CallAt _ _ _ _ _ _ _ _) ?_ | refine And.intro (?_ : CallAt _ _ _ _ _ _ _ _ ∧ _) ?_ | refine And.intro (?_ : AW _ _ _ _) ?_ | fail))
    · refine .mk (i + 1) (by omega) (by omega) ?_
      have e : t.take (i + 1) = t.take i ++ [nth t i] := by rw [List.take_succ_eq_append_getElem (by omega), nth_eq t i (by omega)]
      simp (disch := omega) only [go_sem, seval, reduceCtorEq, ↓reduceIte, beq_dec, Int.toNat_natCast, IntKind.signed, IntKind.bits, Int.natCast_add, Int.natCast_one, e, List.map_append]
    · have hi' : i = t.length := by omega
      subst hi'
      refine CallAt.frz [900] ?_
      have g := FnW.nil (pre := [_, _]) (post := [_, _]) g130
      simp only [List.cons_append, List.nil_append] at g
      simp only [List.take_length]
      (repeat' (first | refine NextAt.mk (fun hc => ?_) (fun pre n v post hc hkey => ?_) | refine Sni.mk (fun hc => ?_) ?_ | refine Both.mk ?_ ?_ | refine AW_seq ?_ | refine AW_block ?_ | ((first | refine AW_reg ?_ | refine AW_cond ?_ | refine AW_skip ?_ | refine AW_exit ?_ | refine AW_ret ?_ | refine AW_regD (by kernel_rfl) ?_ | refine AW_regX (by kernel_rfl) ?_ | refine CallAt.mkW (g ..) (by rfl) (by simp (disch := omega) only [go_sem, seval, reduceCtorEq, ↓reduceIte, beq_dec, Int.toNat_natCast, IntKind.signed, IntKind.bits]) (by rfl) (by rfl) (by first | (intro h; cases h; done) | (intro _; simp [RV.flatP, CD.flatP, flatOb, AO.flatP]; done)) ?_ | refine CallAtG.t (Eq.refl true) ?_ | refine CallAtG.f (Eq.refl false) ?_); try simp (disch := omega) only [go_sem, seval, reduceCtorEq, ↓reduceIte, beq_dec, Int.toNat_natCast, IntKind.signed, IntKind.bits]) | refine And.intro (fun hc => (?_ : AW _ _ _ _)) (fun hc => (?_ : AW _ _ _ _)) | simp (disch := omega) only [go_sem, seval, reduceCtorEq, ↓reduceIte, beq_dec, Int.toNat_natCast, IntKind.signed, IntKind.bits] | (refine And.intro ?_ ?_; focus (first | (intros; omega) | (intros; simp_all; done))) | refine And.intro (?_ : CallAt _ _ _ _ _ _ _ _) ?_ | refine And.intro (?_ : CallAt _ _ _ _ _ _ _ _ ∧ _) ?_ | refine And.intro (?_ : AW _ _ _ _) ?_ | fail))
/-- all orders without gaps, as they are walked -/
def ords (n : Int) (t : List (List Int)) : List (List Int) := if validT n t = true then walks n.toNat t n.toNat [] (t.map fun r => (r.length : Int)) else []
def firstE (n : Int) (t : List (List Int)) : Int := if validT n t = true then (if (ords n t).isEmpty = true then 7 else 0) else 1
theorem rn6 : rn 1000006 = 6 := rfl
theorem rn7 : rn 1000007 = 7 := rfl
theorem f51 (n : Int) (t : List (List Int)) : FnR Try.prog 9 [.I n, .c (Tab t)] [.c (fo (ords n t)), .c (.I (firstE n t))] := by
  refine fn_walk code9 (by simp) ?_
  have g38 := f38 n t
  unfold firstE ords
  cases hv : validT n t with
  | false =>
    rw [hv] at g38
    simp only [Bool.false_eq_true, if_false, fo]
    (repeat' (first | refine NextAt.mk (fun hc => ?_) (fun pre n v post hc hkey => ?_) | refine Sni.mk (fun hc => ?_) ?_ | refine Both.mk ?_ ?_ | refine AW_seq ?_ | refine AW_block ?_ | ((first | refine AW_reg ?_ | refine AW_cond ?_ | refine AW_skip ?_ | refine AW_exit ?_ | refine AW_ret ?_ | refine AW_regD (by kernel_rfl) ?_ | refine AW_regX (by kernel_rfl) ?_ | refine CallAtG.t (Eq.refl true) ?_ | refine CallAtG.f (Eq.refl false) ?_ | refine CallAt.mk _ (g38 ..) (by first | (intro h; cases h; done) | (intro _; repeat' (first | exact List.forall_mem_nil _ | trivial | refine List.forall_mem_cons.2 ⟨?_, ?_⟩)) | (intro _; simp [RV.flatP, CD.flatP]; done)) ?_ | refine CallAtG.mk _ (fun _ => g38 ..) ?_ | refine CallDS.mk _ (by simp [RV.data]) (fun _ => g38 ..) (by first | (intro h; cases h; done) | (intro _; repeat' (first | exact List.forall_mem_nil _ | trivial | refine List.forall_mem_cons.2 ⟨?_, ?_⟩)) | (intro _; simp [RV.flatP, CD.flatP]; done)) ?_); try simp (disch := omega) only [go_sem, seval, reduceCtorEq, ↓reduceIte, beq_dec, Int.toNat_natCast, IntKind.signed, IntKind.bits]) | refine And.intro (fun hc => (?_ : AW _ _ _ _)) (fun hc => (?_ : AW _ _ _ _)) | simp (disch := omega) only [go_sem, seval, reduceCtorEq, ↓reduceIte, beq_dec, Int.toNat_natCast, IntKind.signed, IntKind.bits] | (refine And.intro ?_ ?_; focus (first | (intros; omega) | (intros; simp_all; done))) | refine And.intro (?_ : CallAt _ _ _ _ _ _ _ _) ?_ | refine And.intro (?_ : CallAt _ _ _ _ _ _ _ _ ∧ _) ?_ | refine And.intro (?_ : AW _ _ _ _) ?_ | fail))
  | true =>
    rw [hv] at g38
    have g := FnW.low (f97F n t hv)
    simp only [renL, AV.ren, renOb, AO.ren, List.map_cons, List.map_nil, rn6, rn7] at g
    simp only [if_true]
    generalize walks n.toNat t n.toNat [] (t.map fun r => (r.length : Int)) = W at g
    cases W with
    | nil =>
      simp only [List.isEmpty_nil, Bool.not_true, fo, if_true] at g ⊢
      (repeat' (first | refine NextAt.mk (fun hc => ?_) (fun pre n v post hc hkey => ?_) | refine Sni.mk (fun hc => ?_) ?_ | refine Both.mk ?_ ?_ | refine AW_seq ?_ | refine AW_block ?_ | ((first | refine AW_reg ?_ | refine AW_cond ?_ | refine AW_skip ?_ | refine AW_exit ?_ | refine AW_ret ?_ | refine AW_regD (by kernel_rfl) ?_ | refine AW_regX (by kernel_rfl) ?_ | refine CallAt.mkW (g ..) (by rfl) (by simp (disch := omega) only [go_sem, seval, reduceCtorEq, ↓reduceIte, beq_dec, Int.toNat_natCast, IntKind.signed, IntKind.bits]) (by rfl) (by rfl) (by first | (intro h; cases h; done) | (intro _; simp [RV.flatP, CD.flatP, flatOb, AO.flatP]; done)) ?_ | refine CallAtG.t (Eq.refl true) ?_ | refine CallAtG.f (Eq.refl false) ?_ | refine CallAt.mk _ (g38 ..) (by first | (intro h; cases h; done) | (intro _; repeat' (first | exact List.forall_mem_nil _ | trivial | refine List.forall_mem_cons.2 ⟨?_, ?_⟩)) | (intro _; simp [RV.flatP, CD.flatP]; done)) ?_ | refine CallAtG.mk _ (fun _ => g38 ..) ?_ | refine CallDS.mk _ (by simp [RV.data]) (fun _ => g38 ..) (by first | (intro h; cases h; done) | (intro _; repeat' (first | exact List.forall_mem_nil _ | trivial | refine List.forall_mem_cons.2 ⟨?_, ?_⟩)) | (intro _; simp [RV.flatP, CD.flatP]; done)) ?_); try simp (disch := omega) only [go_sem, seval, reduceCtorEq, ↓reduceIte, beq_dec, Int.toNat_natCast, IntKind.signed, IntKind.bits]) | refine And.intro (fun hc => (?_ : AW _ _ _ _)) (fun hc => (?_ : AW _ _ _ _)) | simp (disch := omega) only [go_sem, seval, reduceCtorEq, ↓reduceIte, beq_dec, Int.toNat_natCast, IntKind.signed, IntKind.bits] | (refine And.intro ?_ ?_; focus (first | (intros; omega) | (intros; simp_all; done))) | refine And.intro (?_ : CallAt _ _ _ _ _ _ _ _) ?_ | refine And.intro (?_ : CallAt _ _ _ _ _ _ _ _ ∧ _) ?_ | refine And.intro (?_ : AW _ _ _ _) ?_ | fail))
    | cons o r =>
      simp only [List.isEmpty_cons, Bool.not_false, fo, Bool.false_eq_true, if_false] at g ⊢
      (repeat' (first | refine NextAt.mk (fun hc => ?_) (fun pre n v post hc hkey => ?_) | refine Sni.mk (fun hc => ?_) ?_ | refine Both.mk ?_ ?_ | refine AW_seq ?_ | refine AW_block ?_ | ((first | refine AW_reg ?_ | refine AW_cond ?_ | refine AW_skip ?_ | refine AW_exit ?_ | refine AW_ret ?_ | refine AW_regD (by kernel_rfl) ?_ | refine AW_regX (by kernel_rfl) ?_ | refine CallAt.mkW (g ..) (by rfl) (by simp (disch := omega) only [go_sem, seval, reduceCtorEq, ↓reduceIte, beq_dec, Int.toNat_natCast, IntKind.signed, IntKind.bits]) (by rfl) (by rfl) (by first | (intro h; cases h; done) | (intro _; simp [RV.flatP, CD.flatP, flatOb, AO.flatP]; done)) ?_ | refine CallAtG.t (Eq.refl true) ?_ | refine CallAtG.f (Eq.refl false) ?_ | refine CallAt.mk _ (g38 ..) (by first | (intro h; cases h; done) | (intro _; repeat' (first | exact List.forall_mem_nil _ | trivial | refine List.forall_mem_cons.2 ⟨?_, ?_⟩)) | (intro _; simp [RV.flatP, CD.flatP]; done)) ?_ | refine CallAtG.mk _ (fun _ => g38 ..) ?_ | refine CallDS.mk _ (by simp [RV.data]) (fun _ => g38 ..) (by first | (intro h; cases h; done) | (intro _; repeat' (first | exact List.forall_mem_nil _ | trivial | refine List.forall_mem_cons.2 ⟨?_, ?_⟩)) | (intro _; simp [RV.flatP, CD.flatP]; done)) ?_); try simp (disch := omega) only [go_sem, seval, reduceCtorEq, ↓reduceIte, beq_dec, Int.toNat_natCast, IntKind.signed, IntKind.bits]) | refine And.intro (fun hc => (?_ : AW _ _ _ _)) (fun hc => (?_ : AW _ _ _ _)) | simp (disch := omega) only [go_sem, seval, reduceCtorEq, ↓reduceIte, beq_dec, Int.toNat_natCast, IntKind.signed, IntKind.bits] | (refine And.intro ?_ ?_; focus (first | (intros; omega) | (intros; simp_all; done))) | refine And.intro (?_ : CallAt _ _ _ _ _ _ _ _) ?_ | refine And.intro (?_ : CallAt _ _ _ _ _ _ _ _ ∧ _) ?_ | refine And.intro (?_ : AW _ _ _ _) ?_ | fail))
end Go.Proofs.Ytddhinbiahcjlaa

-- P p_27s.txt
open Go Go.AL Go.RowKit
namespace Go.Proofs.Ytddhinbiahcjlaa
set_option maxRecDepth 20000

/-! ### two ascending lists with the same members -/
theorem pw_ext : ∀ {a b : List Int}, a.Pairwise (· < ·) → b.Pairwise (· < ·) → (∀ x, x ∈ a ↔ x ∈ b) → a = b
  | [], [], _, _, _ => rfl
  | [], y :: b, _, _, h => absurd ((h y).2 (by simp)) (by simp)
  | x :: a, [], _, _, h => absurd ((h x).1 (by simp)) (by simp)
  | x :: a, y :: b, ha, hb, h => by
    rw [List.pairwise_cons] at ha hb
    have h1 := (h x).1 (by simp)
    have h2 := (h y).2 (by simp)
    have e : x = y := by
      rcases List.mem_cons.1 h1 with e | h1
      · exact e
      · rcases List.mem_cons.1 h2 with e | h2
        · exact e.symm
        · have := ha.1 y h2; have := hb.1 x h1; omega
    subst e
    congr 1
    refine pw_ext ha.2 hb.2 fun z => ⟨fun hz => ?_, fun hz => ?_⟩
    · rcases List.mem_cons.1 ((h z).1 (List.mem_cons_of_mem _ hz)) with e | h'
      · have := ha.1 z hz; omega
      · exact h'
    · rcases List.mem_cons.1 ((h z).2 (List.mem_cons_of_mem _ hz)) with e | h'
      · have := hb.1 z hz; omega
      · exact h'
theorem pw_nodup {l : List Int} (h : l.Pairwise (· < ·)) : l.Nodup := h.imp fun h e => by omega

/-! ### the program's rows of a part -/
theorem idx_nth {l : List Int} (h : l.Nodup) {k : Nat} (hk : k < l.length) : idx l (nth l k) = k := by
  refine idx_found hk rfl fun j hj e => ?_
  rw [nth_eq l j (by omega), nth_eq l k hk] at e
  exact (List.pairwise_iff_getElem.1 h j k (by omega) hk hj) e
def obs (p : Int → List (List Int) → Bool) (n : Int) (t : List (List Int)) (rows cols : List Int) : Bool := decide (cutErr n t rows cols = 0) && !p cols.length (cutR n t rows cols)
end Go.Proofs.Ytddhinbiahcjlaa

-- P p_27s.txt
open Go Go.AL Go.RowKit
namespace Go.Proofs.Ytddhinbiahcjlaa
set_option maxRecDepth 20000

/-! ### the reference's orders -/
def runsN (row order : List Int) : Nat → Nat
  | 0 => 0
  | k + 1 => runsN row order k + if nth order k ∈ row ∧ (k = 0 ∨ nth order (k - 1) ∉ row) then 1 else 0
theorem runsN_le (row order : List Int) : ∀ k, runsN row order k ≤ k
  | 0 => Nat.le_refl _
  | k + 1 => by
    have := runsN_le row order k
    simp only [runsN]
    split <;> omega
def isOrd (o : List Int) (n : Int) : Bool := decide ((o.length : Int) = n ∧ ∀ i, i < o.length → 0 ≤ nth o i ∧ nth o i < n ∧ ∀ k, k < i → nth o i ≠ nth o k)
def runErr (n : Int) (t : List (List Int)) (o : List Int) : Int := if validT n t = false then 1 else if isOrd o n = false then 2 else 0
def runsL (n : Int) (t : List (List Int)) (o : List Int) : List Int := if runErr n t o = 0 then t.map fun r => ((runsN r o o.length : Nat) : Int) else []
end Go.Proofs.Ytddhinbiahcjlaa

