/-
  Lemmas for the proof: no statement of its own.
-/
import Derived.Test.YtciglfmfemidnaaWalkE
set_option linter.unusedVariables false
set_option linter.unusedSimpArgs false
-- P p_30s.txt
open Go Go.AL Go.RowKit
namespace Go.Proofs.Ytciglfmfemidnaa
set_option maxRecDepth 20000

/-! ### the sum of groups -/
def seenL (gs : List (List Int)) (i j : Nat) : List Int := (gs.take i).flatten ++ (nth gs i).take j
def gOk (T : Nat) (gs : List (List Int)) (i j : Nat) : Prop := (0 ≤ nth (nth gs i) j ∧ nth (nth gs i) j < T) ∧ (j = 0 ∨ nth (nth gs i) (j - 1) < nth (nth gs i) j) ∧ nth (nth gs i) j ∉ seenL gs i j
instance (T : Nat) (gs : List (List Int)) (i j : Nat) : Decidable (gOk T gs i j) := by unfold gOk; exact inferInstance
def gsOk (T : Nat) (gs : List (List Int)) : Bool := decide (∀ i, i < gs.length → ∀ j, j < (nth gs i).length → gOk T gs i j)
def prtT (t : List (List Int)) (g : List Int) : List (List Int) := g.map fun r => nth t r.toNat
def bndE (n : Int) (t : List (List Int)) (gs : List (List Int)) : Int := if validT n t = true then (if gsOk t.length gs = true then 0 else 2) else 1
def sumG (n : Int) (t : List (List Int)) (gs : List (List Int)) : Nat → Int
  | 0 => 0
  | k + 1 => sumG n t gs k + (leastV n (prtT t (nth gs k))).2
def bndV (n : Int) (t : List (List Int)) (gs : List (List Int)) : Int := if bndE n t gs = 0 then sumG n t gs gs.length else 0
theorem seenL_succ {gs : List (List Int)} {i j : Nat} (h : j < (nth gs i).length) : seenL gs i (j + 1) = seenL gs i j ++ [nth (nth gs i) j] := by
  unfold seenL
  rw [List.take_succ_eq_append_getElem h, ← List.append_assoc, nth_eq _ j h]
theorem seenL_next {gs : List (List Int)} {i : Nat} (h : i < gs.length) : seenL gs (i + 1) 0 = seenL gs i (nth gs i).length := by
  unfold seenL
  rw [List.take_succ_eq_append_getElem h, List.flatten_append, List.take_length, nth_eq gs i h]
  simp
theorem gsOk_no {T : Nat} {gs : List (List Int)} {i j : Nat} (hi : i < gs.length) (hj : j < (nth gs i).length) (h : ¬ gOk T gs i j) : gsOk T gs = false := decide_eq_false fun k => h (k i hi j hj)
theorem gOk_asc {T : Nat} {gs : List (List Int)} {i : Nat} (h : ∀ j, j < (nth gs i).length → gOk T gs i j) : (nth gs i).length ≤ T := by
  have key : ∀ j, j < (nth gs i).length → (j : Int) ≤ nth (nth gs i) j := by
    intro j
    induction j with
    | zero => intro hj; exact (h 0 hj).1.1
    | succ j ih =>
      intro hj
      have h1 := ih (by omega)
      have h2 := (h (j + 1) hj).2.1
      simp only [Nat.add_sub_cancel] at h2
      omega
  refine Nat.le_of_not_lt fun hc => ?_
  have h1 := key T hc
  have h2 := (h T hc).1.2
  omega
theorem seen_pre {T : Nat} {gs : List (List Int)} (h : gsOk T gs = true) : ∀ i, i ≤ gs.length → Pre T (seenL gs i 0)
  | 0, _ => ⟨by simp [seenL], by simp [seenL]⟩
  | i + 1, hi => by
    have ih := seen_pre h i (by omega)
    have hk := of_decide_eq_true h i (by omega)
    rw [seenL_next (by omega)]
    have key : ∀ j, j ≤ (nth gs i).length → Pre T (seenL gs i j) := by
      intro j
      induction j with
      | zero => intro _; exact ih
      | succ j ihj =>
        intro hj
        have h1 := ihj (by omega)
        obtain ⟨k1, _, k2⟩ := hk j (by omega)
        rw [seenL_succ (by omega)]
        refine ⟨?_, fun x hx => ?_⟩
        · rw [List.nodup_append]
          exact ⟨h1.nd, by simp, fun a ha b hb e => by simp at hb; subst hb; subst e; exact k2 ha⟩
        · rcases List.mem_append.1 hx with hx | hx
          · exact h1.rg x hx
          · simp at hx; subst hx; exact k1
    exact key _ (Nat.le_refl _)
theorem gap_le_len {n : Int} {t : List (List Int)} {o : List Int} (h : isOrd o n = true) (hn : n ≤ 7) : gapO t o ≤ 7 * t.length := by
  obtain ⟨q0, q1, q2⟩ := isOrd_iff.1 h
  unfold gapO
  have : ∀ k, k ≤ t.length → gapN (runsO t o) k ≤ 7 * k := by
    intro k
    induction k with
    | zero => intro _; simp [gapN]
    | succ k ih =>
      intro hk
      have h1 := ih (by omega)
      have h2 := runsN_le (nth t k) o o.length
      simp only [gapN, runsO_nth (t := t) (o := o) (i := k) (by omega)]
      omega
  have := this t.length (Nat.le_refl _)
  omega
theorem nth_prt {t : List (List Int)} {g : List Int} {i : Nat} (h : i < g.length) : nth (prtT t g) i = nth t (nth g i).toNat := by
  rw [nth_eq _ i (by simpa [prtT] using h), nth_eq g i h]; simp [prtT]
theorem prt_valid {n : Int} {t : List (List Int)} {g : List Int} (hv : validT n t = true) (hg : ∀ x ∈ g, 0 ≤ x ∧ x < t.length) (hl : g.length ≤ t.length) : validT n (prtT t g) = true := by
  obtain ⟨h1, h2, h3, h4⟩ := validT_of hv
  have e : (prtT t g).length = g.length := by simp [prtT]
  refine decide_eq_true ⟨h1, h2, by omega, fun i hi => ?_⟩
  have hi' : i < g.length := by omega
  rw [nth_prt hi']
  have := hg _ (nth_mem g i hi')
  exact h4 _ (by omega)
theorem gs_rng {T : Nat} {gs : List (List Int)} (h : gsOk T gs = true) {i : Nat} (hi : i < gs.length) : (nth gs i).length ≤ T ∧ ∀ x ∈ nth gs i, 0 ≤ x ∧ x < T := by
  have hk := of_decide_eq_true h i hi
  refine ⟨gOk_asc hk, fun x hx => ?_⟩
  obtain ⟨j, hj, rfl⟩ := List.getElem_of_mem hx
  have := (hk j hj).1
  rw [nth_eq _ j hj] at this
  exact this
theorem sumG_le {n : Int} {t : List (List Int)} {gs : List (List Int)} (hv : validT n t = true) (h : gsOk t.length gs = true) : ∀ k, k ≤ gs.length → 0 ≤ sumG n t gs k ∧ sumG n t gs k ≤ 7 * (seenL gs k 0).length
  | 0, _ => by simp [sumG, seenL]
  | k + 1, hk => by
    obtain ⟨i1, i2⟩ := sumG_le hv h k (by omega)
    obtain ⟨g1, g2⟩ := gs_rng h (i := k) (by omega)
    obtain ⟨a1, a2, a3, a4⟩ := least_spec (prt_valid hv g2 g1)
    have h1 := gap_le_len (t := prtT t (nth gs k)) a1 (validT_of hv).2.1
    have e : (prtT t (nth gs k)).length = (nth gs k).length := by simp [prtT]
    have e2 : (seenL gs (k + 1) 0).length = (seenL gs k 0).length + (nth gs k).length := by
      rw [seenL_next (by omega)]; simp [seenL]
    simp only [sumG]
    omega
theorem sumG_bnd {n : Int} {t : List (List Int)} {gs : List (List Int)} (hv : validT n t = true) (h : gsOk t.length gs = true) (k : Nat) (hk : k ≤ gs.length) : 0 ≤ sumG n t gs k ∧ sumG n t gs k ≤ 112 := by
  obtain ⟨h1, h2⟩ := sumG_le hv h k hk
  have h3 := seen_pre h k hk
  have h4 := pig t.length _ h3.nd h3.rg
  have h5 := (validT_of hv).2.2.1
  omega
theorem prt_succ {t : List (List Int)} {g : List Int} {j : Nat} (h : j < g.length) : prtT t (g.take (j + 1)) = prtT t (g.take j) ++ [nth t (nth g j).toNat] := by
  unfold prtT
  rw [List.take_succ_eq_append_getElem h, List.map_append, nth_eq g j h]; rfl
set_option maxHeartbeats 4000000 in
theorem v28 (n : Int) (t : List (List Int)) (gs : List (List Int)) : FnR Try.prog 7 [.I n, .c (Tab t), .c (Tab gs)] [.c (.I (bndV n t gs)), .c (.I (bndE n t gs))] := by
  refine FnR_lens (pre := [.I n, .c (Tab t)]) (post := []) (fnCode_callB code7) fun hl hls => ?_
  have hls := tab_lens hls
  simp only [List.length_map, maxLen] at hl
  have g31 := f38 n t
  refine fn_walk code7 (by simp) ?_
  unfold bndV bndE
  cases hv : validT n t with
  | false =>
    rw [hv] at g31
    (repeat' (first | refine NextAt.mk (fun hc => ?_) (fun pre n v post hc hkey => ?_) | refine Sni.mk (fun hc => ?_) ?_ | refine Both.mk ?_ ?_ | refine AW_seq ?_ | refine AW_block ?_ | ((first | refine AW_reg ?_ | refine AW_cond ?_ | refine AW_skip ?_ | refine AW_exit ?_ | refine AW_ret ?_ | refine AW_regD (by kernel_rfl) ?_ | refine AW_regX (by kernel_rfl) ?_ | refine CallAtG.t (Eq.refl true) ?_ | refine CallAtG.f (Eq.refl false) ?_ | refine CallAt.mk _ (g31 ..) (by first | (intro h; cases h; done) | (intro _; repeat' (first | exact List.forall_mem_nil _ | trivial | refine List.forall_mem_cons.2 ⟨?_, ?_⟩)) | (intro _; simp [RV.flatP, CD.flatP]; done)) ?_ | refine CallAtG.mk _ (fun _ => g31 ..) ?_ | refine CallDS.mk _ (by simp [RV.data]) (fun _ => g31 ..) (by first | (intro h; cases h; done) | (intro _; repeat' (first | exact List.forall_mem_nil _ | trivial | refine List.forall_mem_cons.2 ⟨?_, ?_⟩)) | (intro _; simp [RV.flatP, CD.flatP]; done)) ?_); try simp (disch := omega) only [go_sem, seval, reduceCtorEq, ↓reduceIte, beq_dec, Int.toNat_natCast, IntKind.signed, IntKind.bits]) | refine And.intro (fun hc => (?_ : AW _ _ _ _)) (fun hc => (?_ : AW _ _ _ _)) | simp (disch := omega) only [go_sem, seval, reduceCtorEq, ↓reduceIte, beq_dec, Int.toNat_natCast, IntKind.signed, IntKind.bits] | (refine And.intro ?_ ?_; focus (first | (intros; omega) | (intros; simp_all; done))) | refine And.intro (?_ : CallAt _ _ _ _ _ _ _ _) ?_ | refine And.intro (?_ : CallAt _ _ _ _ _ _ _ _ ∧ _) ?_ | refine And.intro (?_ : AW _ _ _ _) ?_ | fail))
  | true =>
    rw [hv] at g31
    obtain ⟨h1, h2, h3, h4⟩ := valid_rows hv
    (repeat' (first | refine NextAt.mk (fun hc => ?_) (fun pre n v post hc hkey => ?_) | refine Sni.mk (fun hc => ?_) ?_ | refine Both.mk ?_ ?_ | refine AW_seq ?_ | refine AW_block ?_ | ((first | refine AW_reg ?_ | refine AW_cond ?_ | refine AW_skip ?_ | refine AW_exit ?_ | refine AW_ret ?_ | refine AW_regD (by kernel_rfl) ?_ | refine AW_regX (by kernel_rfl) ?_ | refine CallAtG.t (Eq.refl true) ?_ | refine CallAtG.f (Eq.refl false) ?_ | refine CallAt.mk _ (g31 ..) (by first | (intro h; cases h; done) | (intro _; repeat' (first | exact List.forall_mem_nil _ | trivial | refine List.forall_mem_cons.2 ⟨?_, ?_⟩)) | (intro _; simp [RV.flatP, CD.flatP, maxLen, Int.toNat_natCast]; done)) ?_ | refine CallAtG.mk _ (fun _ => g31 ..) ?_ | refine CallDS.mk _ (by simp [RV.data]) (fun _ => g31 ..) (by first | (intro h; cases h; done) | (intro _; repeat' (first | exact List.forall_mem_nil _ | trivial | refine List.forall_mem_cons.2 ⟨?_, ?_⟩)) | (intro _; simp [RV.flatP, CD.flatP, maxLen, Int.toNat_natCast]; done)) ?_); try simp (disch := omega) only [go_sem, seval, reduceCtorEq, ↓reduceIte, beq_dec, Int.toNat_natCast, IntKind.signed, IntKind.bits, maxLen, Int.toNat_natCast]) | refine And.intro (fun hc => (?_ : AW _ _ _ _)) (fun hc => (?_ : AW _ _ _ _)) | simp (disch := omega) only [go_sem, seval, reduceCtorEq, ↓reduceIte, beq_dec, Int.toNat_natCast, IntKind.signed, IntKind.bits, maxLen, Int.toNat_natCast] | (refine And.intro ?_ ?_; focus (first | (intros; omega) | (intros; simp_all; done))) | refine And.intro (?_ : CallAt _ _ _ _ _ _ _ _) ?_ | refine And.intro (?_ : CallAt _ _ _ _ _ _ _ _ ∧ _) ?_ | refine And.intro (?_ : AW _ _ _ _) ?_ | fail))
    refine AW_loopK [0, 1, 2, 8, 28, 29] [6, 7, 10, 11, 12, 30, 31, 32, 33, 34, 35, 36, 37, 38, 39, 40, 41, 42, 43, 44, 45, 46, 47, 48, 49, 50, 51, 52, 53, 54, 55, 56, 57, 58, 59, 60, 61, 62, 63, 64, 65, 66, 67, 68, 69, 70, 71, 72] (fun i : Nat => i ≤ gs.length ∧ ∀ i', i' < i → ∀ j, j < (nth gs i').length → gOk t.length gs i' j) (fun i => [(30, .I i), (8, .own 27)]) (fun i => [(27, .arr 4 1 ((inB t.length (seenL gs i 0)).map fun x => [CD.B x]))]) (fun i => gs.length - i) 0 ⟨by omega, by omega⟩ ?_ ?_
    · have e : seenL gs 0 0 = [] := by simp [seenL]
      simp (disch := omega) only [go_sem, seval, reduceCtorEq, ↓reduceIte, beq_dec, Int.toNat_natCast, IntKind.signed, IntKind.bits, Int.natCast_zero, e, inB_nil]
    · rintro i ⟨hi, hb⟩
      by_cases hig : i < gs.length
      case pos =>
        have hdi : decide ((i : Int) < (gs.length : Int)) = true := decide_eq_true (by omega)
        have hgl := hls i hig
        (repeat' (first | refine NextAt.mk (fun hc => ?_) (fun pre n v post hc hkey => ?_) | refine Sni.mk (fun hc => ?_) ?_ | refine Both.mk ?_ ?_ | refine AW_seq ?_ | refine AW_block ?_ | ((first | refine AW_reg ?_ | refine AW_cond ?_ | refine AW_skip ?_ | refine AW_exit ?_ | refine AW_ret ?_ | refine AW_regD (by kernel_rfl) ?_ | refine AW_regX (by kernel_rfl) ?_ | refine CallAtG.t (Eq.refl true) ?_ | refine CallAtG.f (Eq.refl false) ?_); try simp (disch := omega) only [go_sem, seval, reduceCtorEq, ↓reduceIte, beq_dec, Int.toNat_natCast, IntKind.signed, IntKind.bits, hdi, getD_map (fun r : List Int => [Row r])]) | refine And.intro (fun hc => (?_ : AW _ _ _ _)) (fun hc => (?_ : AW _ _ _ _)) | simp (disch := omega) only [go_sem, seval, reduceCtorEq, ↓reduceIte, beq_dec, Int.toNat_natCast, IntKind.signed, IntKind.bits, hdi, getD_map (fun r : List Int => [Row r])] | (refine And.intro ?_ ?_; focus (first | (intros; omega) | (intros; simp_all; done))) | refine And.intro (?_ : CallAt _ _ _ _ _ _ _ _) ?_ | refine And.intro (?_ : CallAt _ _ _ _ _ _ _ _ ∧ _) ?_ | refine And.intro (?_ : AW _ _ _ _) ?_ | fail))
        refine AW_loopK [0, 1, 2, 8, 10, 28, 29, 30, 34, 35] [6, 7, 11, 12, 36, 37, 38, 39, 40, 41, 42, 43, 44, 45, 46, 47, 48, 49, 50, 51, 52, 53, 54, 55, 56, 57, 58, 59, 60, 61, 62, 63, 64, 65, 66, 67, 68, 69, 70, 71] (fun j : Nat => j ≤ (nth gs i).length ∧ ∀ j', j' < j → gOk t.length gs i j') (fun j => [(36, .I j), (8, .own 27)]) (fun j => [(27, .arr 4 1 ((inB t.length (seenL gs i j)).map fun x => [CD.B x]))]) (fun j => (nth gs i).length - j) 0 ⟨by omega, by omega⟩ ?_ ?_
        · simp (disch := omega) only [go_sem, seval, reduceCtorEq, ↓reduceIte, beq_dec, Int.toNat_natCast, IntKind.signed, IntKind.bits, Int.natCast_zero]
        · rintro j ⟨hj, hcc⟩
          by_cases hjg : j < (nth gs i).length
          case neg =>
            have hdj : decide ((j : Int) < ((nth gs i).length : Int)) = false := decide_eq_false (by omega)
            have ej : j = (nth gs i).length := by omega
            have e := seenL_next hig
            rw [← ej] at e
            (repeat' (first | refine NextAt.mk (fun hc => ?_) (fun pre n v post hc hkey => ?_) | refine Sni.mk (fun hc => ?_) ?_ | refine Both.mk ?_ ?_ | refine AW_seq ?_ | refine AW_block ?_ | ((first | refine AW_reg ?_ | refine AW_cond ?_ | refine AW_skip ?_ | refine AW_exit ?_ | refine AW_ret ?_ | refine AW_regD (by kernel_rfl) ?_ | refine AW_regX (by kernel_rfl) ?_ | refine CallAtG.t (Eq.refl true) ?_ | refine CallAtG.f (Eq.refl false) ?_); try simp (disch := omega) only [go_sem, seval, reduceCtorEq, ↓reduceIte, beq_dec, Int.toNat_natCast, IntKind.signed, IntKind.bits, hdj]) | refine And.intro (fun hc => (?_ : AW _ _ _ _)) (fun hc => (?_ : AW _ _ _ _)) | simp (disch := omega) only [go_sem, seval, reduceCtorEq, ↓reduceIte, beq_dec, Int.toNat_natCast, IntKind.signed, IntKind.bits, hdj] | (refine And.intro ?_ ?_; focus (first | (intros; omega) | (intros; simp_all; done))) | refine And.intro (?_ : CallAt _ _ _ _ _ _ _ _) ?_ | refine And.intro (?_ : CallAt _ _ _ _ _ _ _ _ ∧ _) ?_ | refine And.intro (?_ : AW _ _ _ _) ?_ | fail))
            refine .mk (i + 1) ⟨by omega, step_lt hb (fun j' hj' => hcc j' (by omega))⟩ (by omega) ?_
            simp (disch := omega) only [go_sem, seval, reduceCtorEq, ↓reduceIte, beq_dec, Int.toNat_natCast, IntKind.signed, IntKind.bits, Int.natCast_add, Int.natCast_one, e]
          case pos =>
            have hdj : decide ((j : Int) < ((nth gs i).length : Int)) = true := decide_eq_true (by omega)
            by_cases hrg : 0 ≤ nth (nth gs i) j ∧ nth (nth gs i) j < t.length
            case neg =>
              have hno : gsOk t.length gs = false := gsOk_no hig hjg fun h => hrg h.1
              have hx : nth (nth gs i) j < 0 ∨ (t.length : Int) ≤ nth (nth gs i) j := by omega
              rw [hno]
              have hG : ((inB t.length (seenL gs i j)).map fun x => [CD.B x]).getD (nth (nth gs i) j).toNat [] = [] ∨ ∃ b, ((inB t.length (seenL gs i j)).map fun x => [CD.B x]).getD (nth (nth gs i) j).toNat [] = [CD.B b] := by
                by_cases h : (nth (nth gs i) j).toNat < (inB t.length (seenL gs i j)).length
                · exact .inr ⟨_, getD_map (fun x : Bool => [CD.B x]) _ _ _ h⟩
                · exact .inl (getD_map_ge _ _ _ _ (by omega))
              rcases hG with hG | ⟨b, hG⟩ <;> rcases hx with hx | hx
              case inl.inl | inr.inl =>
                have hd1 : decide (nth (nth gs i) j < 0) = true := decide_eq_true hx
                (repeat' (first | refine NextAt.mk (fun hc => ?_) (fun pre n v post hc hkey => ?_) | refine Sni.mk (fun hc => ?_) ?_ | refine Both.mk ?_ ?_ | refine AW_seq ?_ | refine AW_block ?_ | ((first | refine AW_reg ?_ | refine AW_cond ?_ | refine AW_skip ?_ | refine AW_exit ?_ | refine AW_ret ?_ | refine AW_regD (by kernel_rfl) ?_ | refine AW_regX (by kernel_rfl) ?_ | refine CallAtG.t (Eq.refl true) ?_ | refine CallAtG.f (Eq.refl false) ?_); try simp (disch := omega) only [go_sem, seval, reduceCtorEq, ↓reduceIte, beq_dec, Int.toNat_natCast, IntKind.signed, IntKind.bits, hdj, hd1, hG, getD_map (fun x : Int => [CD.I x])]) | refine And.intro (fun hc => (?_ : AW _ _ _ _)) (fun hc => (?_ : AW _ _ _ _)) | simp (disch := omega) only [go_sem, seval, reduceCtorEq, ↓reduceIte, beq_dec, Int.toNat_natCast, IntKind.signed, IntKind.bits, hdj, hd1, hG, getD_map (fun x : Int => [CD.I x])] | (refine And.intro ?_ ?_; focus (first | (intros; omega) | (intros; simp_all; done))) | refine And.intro (?_ : CallAt _ _ _ _ _ _ _ _) ?_ | refine And.intro (?_ : CallAt _ _ _ _ _ _ _ _ ∧ _) ?_ | refine And.intro (?_ : AW _ _ _ _) ?_ | fail))
              case inl.inr | inr.inr =>
                have hd1 : decide (nth (nth gs i) j < 0) = false := decide_eq_false (by omega)
                have hd2 : decide ((t.length : Int) ≤ nth (nth gs i) j) = true := decide_eq_true hx
                (repeat' (first | refine NextAt.mk (fun hc => ?_) (fun pre n v post hc hkey => ?_) | refine Sni.mk (fun hc => ?_) ?_ | refine Both.mk ?_ ?_ | refine AW_seq ?_ | refine AW_block ?_ | ((first | refine AW_reg ?_ | refine AW_cond ?_ | refine AW_skip ?_ | refine AW_exit ?_ | refine AW_ret ?_ | refine AW_regD (by kernel_rfl) ?_ | refine AW_regX (by kernel_rfl) ?_ | refine CallAtG.t (Eq.refl true) ?_ | refine CallAtG.f (Eq.refl false) ?_); try simp (disch := omega) only [go_sem, seval, reduceCtorEq, ↓reduceIte, beq_dec, Int.toNat_natCast, IntKind.signed, IntKind.bits, hdj, hd1, hd2, hG, getD_map (fun x : Int => [CD.I x])]) | refine And.intro (fun hc => (?_ : AW _ _ _ _)) (fun hc => (?_ : AW _ _ _ _)) | simp (disch := omega) only [go_sem, seval, reduceCtorEq, ↓reduceIte, beq_dec, Int.toNat_natCast, IntKind.signed, IntKind.bits, hdj, hd1, hd2, hG, getD_map (fun x : Int => [CD.I x])] | (refine And.intro ?_ ?_; focus (first | (intros; omega) | (intros; simp_all; done))) | refine And.intro (?_ : CallAt _ _ _ _ _ _ _ _) ?_ | refine And.intro (?_ : CallAt _ _ _ _ _ _ _ _ ∧ _) ?_ | refine And.intro (?_ : AW _ _ _ _) ?_ | fail))
            case pos =>
              have hd1 : decide (nth (nth gs i) j < 0) = false := decide_eq_false (by omega)
              have hd2 : decide ((t.length : Int) ≤ nth (nth gs i) j) = false := decide_eq_false (by omega)
              have hbl := inB_len t.length (seenL gs i j)
              have hba := inB_at (r := seenL gs i j) hrg
              (repeat' (first | refine NextAt.mk (fun hc => ?_) (fun pre n v post hc hkey => ?_) | refine Sni.mk (fun hc => ?_) ?_ | refine Both.mk ?_ ?_ | refine AW_seq ?_ | refine AW_block ?_ | ((first | refine AW_reg ?_ | refine AW_cond ?_ | refine AW_skip ?_ | refine AW_exit ?_ | refine AW_ret ?_ | refine AW_regD (by kernel_rfl) ?_ | refine AW_regX (by kernel_rfl) ?_ | refine CallAtG.t (Eq.refl true) ?_ | refine CallAtG.f (Eq.refl false) ?_); try simp (disch := omega) only [go_sem, seval, reduceCtorEq, ↓reduceIte, beq_dec, Int.toNat_natCast, IntKind.signed, IntKind.bits, hdj, hd1, hd2, hbl, hba, getD_map (fun x : Int => [CD.I x]), getD_map (fun x : Bool => [CD.B x]), bset, toNat_pred]) | refine And.intro (fun hc => (?_ : AW _ _ _ _)) (fun hc => (?_ : AW _ _ _ _)) | simp (disch := omega) only [go_sem, seval, reduceCtorEq, ↓reduceIte, beq_dec, Int.toNat_natCast, IntKind.signed, IntKind.bits, hdj, hd1, hd2, hbl, hba, getD_map (fun x : Int => [CD.I x]), getD_map (fun x : Bool => [CD.B x]), bset, toNat_pred] | (refine And.intro ?_ ?_; focus (first | (intros; omega) | (intros; simp_all; done))) | refine And.intro (?_ : CallAt _ _ _ _ _ _ _ _) ?_ | refine And.intro (?_ : CallAt _ _ _ _ _ _ _ _ ∧ _) ?_ | refine And.intro (?_ : AW _ _ _ _) ?_ | fail))
              · have hno : gsOk t.length gs = false := gsOk_no hig hjg fun h => by
                  rename_i hc
                  obtain ⟨_, k1, k2⟩ := h
                  rcases hc with hc | hc
                  · omega
                  · exact k2 hc
                rw [hno]
                simp
              · have e : (inB t.length (seenL gs i j)).set (nth (nth gs i) j).toNat true = inB t.length (seenL gs i (j + 1)) := by
                  rw [inB_put, seenL_succ hjg, show (((nth (nth gs i) j).toNat : Nat) : Int) = nth (nth gs i) j by omega]
                refine .mk (j + 1) ⟨by omega, step_lt hcc ⟨hrg, ?_, ?_⟩⟩ (by omega) ?_
                · rename_i hc
                  omega
                · rename_i hc
                  exact hc.2
                · simp (disch := omega) only [go_sem, seval, reduceCtorEq, ↓reduceIte, beq_dec, Int.toNat_natCast, IntKind.signed, IntKind.bits, Int.natCast_add, Int.natCast_one, e]
      case neg =>
        have hdi : decide ((i : Int) < (gs.length : Int)) = false := decide_eq_false (by omega)
        (repeat' (first | refine NextAt.mk (fun hc => ?_) (fun pre n v post hc hkey => ?_) | refine Sni.mk (fun hc => ?_) ?_ | refine Both.mk ?_ ?_ | refine AW_seq ?_ | refine AW_block ?_ | ((first | refine AW_reg ?_ | refine AW_cond ?_ | refine AW_skip ?_ | refine AW_exit ?_ | refine AW_ret ?_ | refine AW_regD (by kernel_rfl) ?_ | refine AW_regX (by kernel_rfl) ?_ | refine CallAtG.t (Eq.refl true) ?_ | refine CallAtG.f (Eq.refl false) ?_); try simp (disch := omega) only [go_sem, seval, reduceCtorEq, ↓reduceIte, beq_dec, Int.toNat_natCast, IntKind.signed, IntKind.bits, hdi]) | refine And.intro (fun hc => (?_ : AW _ _ _ _)) (fun hc => (?_ : AW _ _ _ _)) | simp (disch := omega) only [go_sem, seval, reduceCtorEq, ↓reduceIte, beq_dec, Int.toNat_natCast, IntKind.signed, IntKind.bits, hdi] | (refine And.intro ?_ ?_; focus (first | (intros; omega) | (intros; simp_all; done))) | refine And.intro (?_ : CallAt _ _ _ _ _ _ _ _) ?_ | refine And.intro (?_ : CallAt _ _ _ _ _ _ _ _ ∧ _) ?_ | refine And.intro (?_ : AW _ _ _ _) ?_ | fail))
        have hok : gsOk t.length gs = true := decide_eq_true fun i' hi' => hb i' (by omega)
        simp only [hok, if_true]
        refine AW_loopK [0, 1, 73, 74] [13, 15, 16, 18, 19, 20, 75, 76, 77, 78, 79, 80, 81, 82, 83, 84, 85, 86, 87, 88, 89, 90, 91, 92, 93, 94, 95, 96, 97, 98, 99, 100, 101, 102] (fun k : Nat => k ≤ gs.length) (fun k => [(75, .I k), (13, .I (sumG n t gs k))]) (fun _ => []) (fun k => gs.length - k) 0 (by omega) ?_ ?_
        · simp (disch := omega) only [go_sem, seval, reduceCtorEq, ↓reduceIte, beq_dec, Int.toNat_natCast, IntKind.signed, IntKind.bits, Int.natCast_zero, sumG]
        · rintro k hk
          have hsb := sumG_bnd hv hok k hk
          by_cases hkg : k < gs.length
          case neg =>
            have hdk : decide ((k : Int) < (gs.length : Int)) = false := decide_eq_false (by omega)
            (repeat' (first | refine NextAt.mk (fun hc => ?_) (fun pre n v post hc hkey => ?_) | refine Sni.mk (fun hc => ?_) ?_ | refine Both.mk ?_ ?_ | refine AW_seq ?_ | refine AW_block ?_ | ((first | refine AW_reg ?_ | refine AW_cond ?_ | refine AW_skip ?_ | refine AW_exit ?_ | refine AW_ret ?_ | refine AW_regD (by kernel_rfl) ?_ | refine AW_regX (by kernel_rfl) ?_ | refine CallAtG.t (Eq.refl true) ?_ | refine CallAtG.f (Eq.refl false) ?_); try simp (disch := omega) only [go_sem, seval, reduceCtorEq, ↓reduceIte, beq_dec, Int.toNat_natCast, IntKind.signed, IntKind.bits, hdk]) | refine And.intro (fun hc => (?_ : AW _ _ _ _)) (fun hc => (?_ : AW _ _ _ _)) | simp (disch := omega) only [go_sem, seval, reduceCtorEq, ↓reduceIte, beq_dec, Int.toNat_natCast, IntKind.signed, IntKind.bits, hdk] | (refine And.intro ?_ ?_; focus (first | (intros; omega) | (intros; simp_all; done))) | refine And.intro (?_ : CallAt _ _ _ _ _ _ _ _) ?_ | refine And.intro (?_ : CallAt _ _ _ _ _ _ _ _ ∧ _) ?_ | refine And.intro (?_ : AW _ _ _ _) ?_ | fail))
            rw [show k = gs.length by omega]
          case pos =>
            have hdk : decide ((k : Int) < (gs.length : Int)) = true := decide_eq_true (by omega)
            have hgl := hls k hkg
            have hsb' := sumG_bnd hv hok (k + 1) (by omega)
            have hse : sumG n t gs (k + 1) = sumG n t gs k + (leastV n (prtT t (nth gs k))).2 := rfl
            obtain ⟨r1, r2⟩ := gs_rng hok hkg
            obtain ⟨_, _, p3, p4⟩ := valid_rows (prt_valid hv r2 r1)
            have g32 := w32 n (prtT t (nth gs k)) ⟨h1, h2⟩ (by omega) p4
            (repeat' (first | refine NextAt.mk (fun hc => ?_) (fun pre n v post hc hkey => ?_) | refine Sni.mk (fun hc => ?_) ?_ | refine Both.mk ?_ ?_ | refine AW_seq ?_ | refine AW_block ?_ | ((first | refine AW_reg ?_ | refine AW_cond ?_ | refine AW_skip ?_ | refine AW_exit ?_ | refine AW_ret ?_ | refine AW_regD (by kernel_rfl) ?_ | refine AW_regX (by kernel_rfl) ?_ | refine CallAtG.t (Eq.refl true) ?_ | refine CallAtG.f (Eq.refl false) ?_); try simp (disch := omega) only [go_sem, seval, reduceCtorEq, ↓reduceIte, beq_dec, Int.toNat_natCast, IntKind.signed, IntKind.bits, hdk, getD_map (fun r : List Int => [Row r])]) | refine And.intro (fun hc => (?_ : AW _ _ _ _)) (fun hc => (?_ : AW _ _ _ _)) | simp (disch := omega) only [go_sem, seval, reduceCtorEq, ↓reduceIte, beq_dec, Int.toNat_natCast, IntKind.signed, IntKind.bits, hdk, getD_map (fun r : List Int => [Row r])] | (refine And.intro ?_ ?_; focus (first | (intros; omega) | (intros; simp_all; done))) | refine And.intro (?_ : CallAt _ _ _ _ _ _ _ _) ?_ | refine And.intro (?_ : CallAt _ _ _ _ _ _ _ _ ∧ _) ?_ | refine And.intro (?_ : AW _ _ _ _) ?_ | fail))
            refine AW_nil 16 900 26 1 (by rfl) ?_
            refine AW_loopK [0, 1, 13, 73, 74, 75, 79, 80] [16, 18, 81, 82, 83, 84, 85, 86, 87, 88, 89, 90, 91, 92] (fun j : Nat => j ≤ (nth gs k).length) (fun j => [(81, .I j), (16, .own 900)]) (fun j => [(900, .arr 26 1 ((prtT t ((nth gs k).take j)).map fun r => [Row r]))]) (fun j => (nth gs k).length - j) 0 (by omega) ?_ ?_
            · simp (disch := omega) only [go_sem, seval, reduceCtorEq, ↓reduceIte, beq_dec, Int.toNat_natCast, IntKind.signed, IntKind.bits, Int.natCast_zero, List.take_zero, prtT, List.map_nil]
            · rintro j hj
              have hpl : (prtT t ((nth gs k).take j)).length = j := by simp [prtT]; omega
              by_cases hjg : j < (nth gs k).length
              case pos =>
                have hdj : decide ((j : Int) < ((nth gs k).length : Int)) = true := decide_eq_true (by omega)
                have hrj := r2 _ (nth_mem _ j hjg)
                have e := prt_succ (t := t) hjg
                (repeat' (first | refine NextAt.mk (fun hc => ?_) (fun pre n v post hc hkey => ?_) | refine Sni.mk (fun hc => ?_) ?_ | refine Both.mk ?_ ?_ | refine AW_seq ?_ | refine AW_block ?_ | ((first | refine AW_reg ?_ | refine AW_cond ?_ | refine AW_skip ?_ | refine AW_exit ?_ | refine AW_ret ?_ | refine AW_regD (by kernel_rfl) ?_ | refine AW_regX (by kernel_rfl) ?_ | refine CallAtG.t (Eq.refl true) ?_ | refine CallAtG.f (Eq.refl false) ?_); try simp (disch := omega) only [go_sem, seval, reduceCtorEq, ↓reduceIte, beq_dec, Int.toNat_natCast, IntKind.signed, IntKind.bits, maxLen, hdj, hpl, getD_map (fun x : Int => [CD.I x]), getD_map (fun r : List Int => [Row r])]) | refine And.intro (fun hc => (?_ : AW _ _ _ _)) (fun hc => (?_ : AW _ _ _ _)) | simp (disch := omega) only [go_sem, seval, reduceCtorEq, ↓reduceIte, beq_dec, Int.toNat_natCast, IntKind.signed, IntKind.bits, maxLen, hdj, hpl, getD_map (fun x : Int => [CD.I x]), getD_map (fun r : List Int => [Row r])] | (refine And.intro ?_ ?_; focus (first | (intros; omega) | (intros; simp_all; done))) | refine And.intro (?_ : CallAt _ _ _ _ _ _ _ _) ?_ | refine And.intro (?_ : CallAt _ _ _ _ _ _ _ _ ∧ _) ?_ | refine And.intro (?_ : AW _ _ _ _) ?_ | fail))
                refine .mk (j + 1) (by omega) (by omega) ?_
                simp (disch := omega) only [go_sem, seval, reduceCtorEq, ↓reduceIte, beq_dec, Int.toNat_natCast, IntKind.signed, IntKind.bits, e, List.map_append, List.map_cons, List.map_nil, Int.natCast_add, Int.natCast_one]
              case neg =>
                have hdj : decide ((j : Int) < ((nth gs k).length : Int)) = false := decide_eq_false (by omega)
                have ej : j = (nth gs k).length := by omega
                subst ej
                rw [List.take_length]
                (repeat' (first | refine NextAt.mk (fun hc => ?_) (fun pre n v post hc hkey => ?_) | refine Sni.mk (fun hc => ?_) ?_ | refine Both.mk ?_ ?_ | refine AW_seq ?_ | refine AW_block ?_ | ((first | refine AW_reg ?_ | refine AW_cond ?_ | refine AW_skip ?_ | refine AW_exit ?_ | refine AW_ret ?_ | refine AW_regD (by kernel_rfl) ?_ | refine AW_regX (by kernel_rfl) ?_ | refine CallAtG.t (Eq.refl true) ?_ | refine CallAtG.f (Eq.refl false) ?_); try simp (disch := omega) only [go_sem, seval, reduceCtorEq, ↓reduceIte, beq_dec, Int.toNat_natCast, IntKind.signed, IntKind.bits, hdj]) | refine And.intro (fun hc => (?_ : AW _ _ _ _)) (fun hc => (?_ : AW _ _ _ _)) | simp (disch := omega) only [go_sem, seval, reduceCtorEq, ↓reduceIte, beq_dec, Int.toNat_natCast, IntKind.signed, IntKind.bits, hdj] | (refine And.intro ?_ ?_; focus (first | (intros; omega) | (intros; simp_all; done))) | refine And.intro (?_ : CallAt _ _ _ _ _ _ _ _) ?_ | refine And.intro (?_ : CallAt _ _ _ _ _ _ _ _ ∧ _) ?_ | refine And.intro (?_ : AW _ _ _ _) ?_ | fail))
                refine CallAt.frz [900] ?_
                simp (disch := omega) only [go_sem, seval, reduceCtorEq, ↓reduceIte, beq_dec, Int.toNat_natCast, IntKind.signed, IntKind.bits]
                (repeat' (first | refine NextAt.mk (fun hc => ?_) (fun pre n v post hc hkey => ?_) | refine Sni.mk (fun hc => ?_) ?_ | refine Both.mk ?_ ?_ | refine AW_seq ?_ | refine AW_block ?_ | ((first | refine AW_reg ?_ | refine AW_cond ?_ | refine AW_skip ?_ | refine AW_exit ?_ | refine AW_ret ?_ | refine AW_regD (by kernel_rfl) ?_ | refine AW_regX (by kernel_rfl) ?_ | refine CallAtG.t (Eq.refl true) ?_ | refine CallAtG.f (Eq.refl false) ?_ | refine CallAt.mk _ (g32 ..) (by first | (intro h; cases h; done) | (intro _; repeat' (first | exact List.forall_mem_nil _ | trivial | refine List.forall_mem_cons.2 ⟨?_, ?_⟩)) | (intro _; simp [RV.flatP, CD.flatP]; done)) ?_ | refine CallAtG.mk _ (fun _ => g32 ..) ?_ | refine CallDS.mk _ (by simp [RV.data]) (fun _ => g32 ..) (by first | (intro h; cases h; done) | (intro _; repeat' (first | exact List.forall_mem_nil _ | trivial | refine List.forall_mem_cons.2 ⟨?_, ?_⟩)) | (intro _; simp [RV.flatP, CD.flatP]; done)) ?_); try simp (disch := omega) only [go_sem, seval, reduceCtorEq, ↓reduceIte, beq_dec, Int.toNat_natCast, IntKind.signed, IntKind.bits]) | refine And.intro (fun hc => (?_ : AW _ _ _ _)) (fun hc => (?_ : AW _ _ _ _)) | simp (disch := omega) only [go_sem, seval, reduceCtorEq, ↓reduceIte, beq_dec, Int.toNat_natCast, IntKind.signed, IntKind.bits] | (refine And.intro ?_ ?_; focus (first | (intros; omega) | (intros; simp_all; done))) | refine And.intro (?_ : CallAt _ _ _ _ _ _ _ _) ?_ | refine And.intro (?_ : CallAt _ _ _ _ _ _ _ _ ∧ _) ?_ | refine And.intro (?_ : AW _ _ _ _) ?_ | fail))
                refine .mk (k + 1) (by omega) (by omega) ?_
                simp (disch := omega) only [go_sem, seval, reduceCtorEq, ↓reduceIte, beq_dec, Int.toNat_natCast, IntKind.signed, IntKind.bits, hse, Int.natCast_add, Int.natCast_one]
end Go.Proofs.Ytciglfmfemidnaa

