/-
  Lemmas for the proof: no statement of its own.
-/
import Derived.Test.YtgldpbghbkoolaaCodeA
import Derived.Test.YtgldpbghbkoolaaDefsA
import Derived.Test.YtgldpbghbkoolaaAlD
import Derived.Test.YtgldpbghbkoolaaRows
set_option linter.unusedVariables false
set_option linter.unusedSimpArgs false
-- P p_15.txt
open Go Go.AL Go.RowKit
namespace Go.Proofs.Ytgldpbghbkoolaa
set_option maxRecDepth 20000

theorem f72 (l : List Die) (x : Die) : FnR Try.prog 56 [.c (DL l), x.av] [.c (.I (plc l x))] := by
  refine FnR_len (pre := []) (post := [x.av]) (fnCode_callB code56) fun hl => ?_
  simp only [List.length_map, maxLen] at hl
  refine fn_walk code56 (by simp) ?_
  (repeat' (first | refine NextAt.mk (fun hc => ?_) (fun pre n v post hc hkey => ?_) | refine Sni.mk (fun hc => ?_) ?_ | refine Both.mk ?_ ?_ | refine AW_seq ?_ | refine AW_block ?_ | ((first | refine AW_reg ?_ | refine AW_cond ?_ | refine AW_skip ?_ | refine AW_exit ?_ | refine AW_ret ?_ | refine AW_regD (by kernel_rfl) ?_ | refine AW_regX (by kernel_rfl) ?_ | refine CallAtG.t (Eq.refl true) ?_ | refine CallAtG.f (Eq.refl false) ?_); try simp (disch := omega) only [go_sem, seval, reduceCtorEq, ↓reduceIte, beq_dec, Int.toNat_natCast, IntKind.signed, IntKind.bits]) | refine And.intro (fun hc => (?_ : AW _ _ _ _)) (fun hc => (?_ : AW _ _ _ _)) | simp (disch := omega) only [go_sem, seval, reduceCtorEq, ↓reduceIte, beq_dec, Int.toNat_natCast, IntKind.signed, IntKind.bits] | (refine And.intro ?_ ?_; focus (first | (intros; omega) | (intros; simp_all; done))) | refine And.intro (?_ : CallAt _ _ _ _ _ _ _ _) ?_ | refine And.intro (?_ : CallAt _ _ _ _ _ _ _ _ ∧ _) ?_ | refine And.intro (?_ : AW _ _ _ _) ?_ | fail))
  refine AW_loopK [0, 3, 7] [4, 5, 8, 9, 10, 11, 12, 13, 14, 15, 16, 17, 18] (fun i : Nat => i ≤ l.length ∧ ∀ j, j < i → nth l j ≠ x) (fun i => [(8, .I i)]) (fun _ => []) (fun i => l.length - i) 0 ⟨by omega, by omega⟩ ?_ ?_
  · simp (disch := omega) only [go_sem, seval, reduceCtorEq, ↓reduceIte, beq_dec, Int.toNat_natCast, IntKind.signed, IntKind.bits, Int.natCast_zero]
  · rintro i ⟨hi, hb⟩
    (repeat' (first | refine NextAt.mk (fun hc => ?_) (fun pre n v post hc hkey => ?_) | refine Sni.mk (fun hc => ?_) ?_ | refine Both.mk ?_ ?_ | refine AW_seq ?_ | refine AW_block ?_ | ((first | refine AW_reg ?_ | refine AW_cond ?_ | refine AW_skip ?_ | refine AW_exit ?_ | refine AW_ret ?_ | refine AW_regD (by kernel_rfl) ?_ | refine AW_regX (by kernel_rfl) ?_ | refine CallAtG.t (Eq.refl true) ?_ | refine CallAtG.f (Eq.refl false) ?_); try simp (disch := omega) only [go_sem, seval, reduceCtorEq, ↓reduceIte, beq_dec, Int.toNat_natCast, IntKind.signed, IntKind.bits, getD_map Die.cd, Die.cd]) | refine And.intro (fun hc => (?_ : AW _ _ _ _)) (fun hc => (?_ : AW _ _ _ _)) | simp (disch := omega) only [go_sem, seval, reduceCtorEq, ↓reduceIte, beq_dec, Int.toNat_natCast, IntKind.signed, IntKind.bits, getD_map Die.cd, Die.cd] | (refine And.intro ?_ ?_; focus (first | (intros; omega) | (intros; simp_all; done))) | refine And.intro (?_ : CallAt _ _ _ _ _ _ _ _) ?_ | refine And.intro (?_ : CallAt _ _ _ _ _ _ _ _ ∧ _) ?_ | refine And.intro (?_ : AW _ _ _ _) ?_ | fail))
    · rw [plc_found (by omega) (die_ext.2 ⟨hc.1.symm, hc.2.symm⟩) hb]
    · refine .mk (i + 1) ⟨by omega, step_lt hb (fun e => by have := die_ext.1 e; omega)⟩ (by omega) ?_
      simp (disch := omega) only [go_sem, seval, reduceCtorEq, ↓reduceIte, beq_dec, Int.toNat_natCast, IntKind.signed, IntKind.bits, Int.natCast_add, Int.natCast_one]
    · rw [plc_none fun j hj => hb j (by omega)]
theorem f73 (x : Int) : FnR Try.prog 71 [.I x] [.c (.B false)] := by
  refine fn_walk code71 (by simp) ?_
  (repeat' (first | refine NextAt.mk (fun hc => ?_) (fun pre n v post hc hkey => ?_) | refine Sni.mk (fun hc => ?_) ?_ | refine Both.mk ?_ ?_ | refine AW_seq ?_ | refine AW_block ?_ | ((first | refine AW_reg ?_ | refine AW_cond ?_ | refine AW_skip ?_ | refine AW_exit ?_ | refine AW_ret ?_ | refine AW_regD (by kernel_rfl) ?_ | refine AW_regX (by kernel_rfl) ?_ | refine CallAtG.t (Eq.refl true) ?_ | refine CallAtG.f (Eq.refl false) ?_); try simp (disch := omega) only [go_sem, seval, reduceCtorEq, ↓reduceIte, beq_dec, Int.toNat_natCast, IntKind.signed, IntKind.bits]) | refine And.intro (fun hc => (?_ : AW _ _ _ _)) (fun hc => (?_ : AW _ _ _ _)) | simp (disch := omega) only [go_sem, seval, reduceCtorEq, ↓reduceIte, beq_dec, Int.toNat_natCast, IntKind.signed, IntKind.bits] | (refine And.intro ?_ ?_; focus (first | (intros; omega) | (intros; simp_all; done))) | refine And.intro (?_ : CallAt _ _ _ _ _ _ _ _) ?_ | refine And.intro (?_ : CallAt _ _ _ _ _ _ _ _ ∧ _) ?_ | refine And.intro (?_ : AW _ _ _ _) ?_ | fail))
  all_goals simp
theorem f69 (x : Int) : FnR Try.prog 67 [.I x] [.c (.B false)] := by
  refine fn_walk code67 (by simp) ?_
  (repeat' (first | refine NextAt.mk (fun hc => ?_) (fun pre n v post hc hkey => ?_) | refine Sni.mk (fun hc => ?_) ?_ | refine Both.mk ?_ ?_ | refine AW_seq ?_ | refine AW_block ?_ | ((first | refine AW_reg ?_ | refine AW_cond ?_ | refine AW_skip ?_ | refine AW_exit ?_ | refine AW_ret ?_ | refine AW_regD (by kernel_rfl) ?_ | refine AW_regX (by kernel_rfl) ?_ | refine CallAtG.t (Eq.refl true) ?_ | refine CallAtG.f (Eq.refl false) ?_); try simp (disch := omega) only [go_sem, seval, reduceCtorEq, ↓reduceIte, beq_dec, Int.toNat_natCast, IntKind.signed, IntKind.bits]) | refine And.intro (fun hc => (?_ : AW _ _ _ _)) (fun hc => (?_ : AW _ _ _ _)) | simp (disch := omega) only [go_sem, seval, reduceCtorEq, ↓reduceIte, beq_dec, Int.toNat_natCast, IntKind.signed, IntKind.bits] | (refine And.intro ?_ ?_; focus (first | (intros; omega) | (intros; simp_all; done))) | refine And.intro (?_ : CallAt _ _ _ _ _ _ _ _) ?_ | refine And.intro (?_ : CallAt _ _ _ _ _ _ _ _ ∧ _) ?_ | refine And.intro (?_ : AW _ _ _ _) ?_ | fail))
  all_goals simp
theorem f68 (x y : Int) : FnR Try.prog 66 [.I x, .I y] [.c (.B (decide (x < y)))] := by
  refine fn_walk code66 (by simp) ?_
  (repeat' (first | refine NextAt.mk (fun hc => ?_) (fun pre n v post hc hkey => ?_) | refine Sni.mk (fun hc => ?_) ?_ | refine Both.mk ?_ ?_ | refine AW_seq ?_ | refine AW_block ?_ | ((first | refine AW_reg ?_ | refine AW_cond ?_ | refine AW_skip ?_ | refine AW_exit ?_ | refine AW_ret ?_ | refine AW_regD (by kernel_rfl) ?_ | refine AW_regX (by kernel_rfl) ?_ | refine CallAtG.t (Eq.refl true) ?_ | refine CallAtG.f (Eq.refl false) ?_ | refine CallAt.mk _ (f73 ..) (by first | (intro h; cases h; done) | (intro _; repeat' (first | exact List.forall_mem_nil _ | trivial | refine List.forall_mem_cons.2 ⟨?_, ?_⟩)) | (intro _; simp [RV.flatP, CD.flatP]; done)) ?_ | refine CallAtG.mk _ (fun _ => f73 ..) ?_ | refine CallDS.mk _ (by simp [RV.data]) (fun _ => f73 ..) (by first | (intro h; cases h; done) | (intro _; repeat' (first | exact List.forall_mem_nil _ | trivial | refine List.forall_mem_cons.2 ⟨?_, ?_⟩)) | (intro _; simp [RV.flatP, CD.flatP]; done)) ?_); try simp (disch := omega) only [go_sem, seval, reduceCtorEq, ↓reduceIte, beq_dec, Int.toNat_natCast, IntKind.signed, IntKind.bits]) | refine And.intro (fun hc => (?_ : AW _ _ _ _)) (fun hc => (?_ : AW _ _ _ _)) | simp (disch := omega) only [go_sem, seval, reduceCtorEq, ↓reduceIte, beq_dec, Int.toNat_natCast, IntKind.signed, IntKind.bits] | (refine And.intro ?_ ?_; focus (first | (intros; omega) | (intros; simp_all; done))) | refine And.intro (?_ : CallAt _ _ _ _ _ _ _ _) ?_ | refine And.intro (?_ : CallAt _ _ _ _ _ _ _ _ ∧ _) ?_ | refine And.intro (?_ : AW _ _ _ _) ?_ | fail))
theorem f16 (a b : List Int) : FnR Try.prog 16 [.c (Row a), .c (Row b)] [.c (.B (decide (a = b)))] := by
  refine FnR_len (pre := []) (fnCode_callB code16) fun hlen => ?_
  simp only [List.length_map, maxLen] at hlen
  refine fn_walk code16 (by simp) ?_
  (repeat' (first | refine NextAt.mk (fun hc => ?_) (fun pre n v post hc hkey => ?_) | refine Sni.mk (fun hc => ?_) ?_ | refine Both.mk ?_ ?_ | refine AW_seq ?_ | refine AW_block ?_ | ((first | refine AW_reg ?_ | refine AW_cond ?_ | refine AW_skip ?_ | refine AW_exit ?_ | refine AW_ret ?_ | refine AW_regD (by kernel_rfl) ?_ | refine AW_regX (by kernel_rfl) ?_ | refine CallAtG.t (Eq.refl true) ?_ | refine CallAtG.f (Eq.refl false) ?_); try simp (disch := omega) only [go_sem, seval, reduceCtorEq, ↓reduceIte, beq_dec, Int.toNat_natCast, IntKind.signed, IntKind.bits]) | refine And.intro (fun hc => (?_ : AW _ _ _ _)) (fun hc => (?_ : AW _ _ _ _)) | simp (disch := omega) only [go_sem, seval, reduceCtorEq, ↓reduceIte, beq_dec, Int.toNat_natCast, IntKind.signed, IntKind.bits] | (refine And.intro ?_ ?_; focus (first | (intros; omega) | (intros; simp_all; done))) | refine And.intro (?_ : CallAt _ _ _ _ _ _ _ _) ?_ | refine And.intro (?_ : CallAt _ _ _ _ _ _ _ _ ∧ _) ?_ | refine And.intro (?_ : AW _ _ _ _) ?_ | fail))
  · simp; intro h; subst h; exact hc rfl
  · have hl : a.length = b.length := by omega
    refine AW_loopK [0, 1] [4, 5, 11, 12, 13, 14, 15, 16, 17, 18, 19, 20, 21, 22, 23, 24, 25] (fun i : Nat => i ≤ a.length ∧ ∀ j, j < i → nth a j = nth b j) (fun i => [(5, .I i)]) (fun _ => []) (fun i => a.length - i) 0 ⟨by omega, by omega⟩ ?_ ?_
    · simp (disch := omega) only [go_sem, seval, reduceCtorEq, ↓reduceIte, beq_dec, Int.toNat_natCast, IntKind.signed, IntKind.bits, Int.natCast_zero]
    · rintro i ⟨hi, hv⟩
      (repeat' (first | refine NextAt.mk (fun hc => ?_) (fun pre n v post hc hkey => ?_) | refine Sni.mk (fun hc => ?_) ?_ | refine Both.mk ?_ ?_ | refine AW_seq ?_ | refine AW_block ?_ | ((first | refine AW_reg ?_ | refine AW_cond ?_ | refine AW_skip ?_ | refine AW_exit ?_ | refine AW_ret ?_ | refine AW_regD (by kernel_rfl) ?_ | refine AW_regX (by kernel_rfl) ?_ | refine CallAtG.t (Eq.refl true) ?_ | refine CallAtG.f (Eq.refl false) ?_); try simp (disch := omega) only [go_sem, seval, reduceCtorEq, ↓reduceIte, beq_dec, Int.toNat_natCast, IntKind.signed, IntKind.bits, getD_map (fun x : Int => [CD.I x])]) | refine And.intro (fun hc => (?_ : AW _ _ _ _)) (fun hc => (?_ : AW _ _ _ _)) | simp (disch := omega) only [go_sem, seval, reduceCtorEq, ↓reduceIte, beq_dec, Int.toNat_natCast, IntKind.signed, IntKind.bits, getD_map (fun x : Int => [CD.I x])] | (refine And.intro ?_ ?_; focus (first | (intros; omega) | (intros; simp_all; done))) | refine And.intro (?_ : CallAt _ _ _ _ _ _ _ _) ?_ | refine And.intro (?_ : CallAt _ _ _ _ _ _ _ _ ∧ _) ?_ | refine And.intro (?_ : AW _ _ _ _) ?_ | fail))
      · symm; simp only [decide_eq_false_iff_not]; intro h; subst h; simp at hc
      · refine .mk (i + 1) ⟨by omega, step_lt hv hc⟩ (by omega) ?_
        simp (disch := omega) only [go_sem, seval, reduceCtorEq, ↓reduceIte, beq_dec, Int.toNat_natCast, IntKind.signed, IntKind.bits, Int.natCast_add, Int.natCast_one]
      · symm; simp only [decide_eq_true_eq]; exact eq_of_nth hl fun j hj => hv j (by omega)
end Go.Proofs.Ytgldpbghbkoolaa

-- P p_15.txt
open Go Go.AL Go.RowKit
namespace Go.Proofs.Ytgldpbghbkoolaa
theorem Try.own : ownKnob Try.prog.godebug = none := by kernel_rfl
theorem Try.laidOut : laidOutB Try.prog = true := by kernel_rfl
theorem ints_of {xs : List (List CD)} (h : ∀ x ∈ xs, Ty [.int .i64] x) : ∃ l : List Int, xs = l.map fun x => [CD.I x] := by
  refine map_of (f := fun x : Int => [CD.I x]) fun x hx => ?_
  obtain ⟨a, _, rfl, _, h⟩ := (h x hx).int_inv
  obtain rfl := h.nil_inv
  exact ⟨a, rfl⟩
theorem row_of {ds : List CD} {s : List Sh} (h : Ty (.sl [.int .i64] :: s) ds) : ∃ (l : List Int) (r : List CD), ds = Row l :: r ∧ Ty s r := by
  obtain ⟨xs, r, e, hx, h'⟩ := h.sl_inv
  obtain ⟨l, rfl⟩ := ints_of hx
  exact ⟨l, r, e, h'⟩
theorem dbls_of {ds : List CD} {s : List Sh} (h : Ty (.sl [.int .i64, .int .i64, .int .i64] :: s) ds) : ∃ (l : List Lk) (r : List CD), ds = LL l :: r ∧ Ty s r := by
  obtain ⟨xs, r, e, hx, h'⟩ := h.sl_inv
  obtain ⟨l, rfl⟩ := map_of (f := Lk.cd) fun x hx' => by
    have h := hx x hx'
    obtain ⟨a1, _, rfl, _, h⟩ := h.int_inv
    obtain ⟨a2, _, rfl, _, h⟩ := h.int_inv
    obtain ⟨a3, _, rfl, _, h⟩ := h.int_inv
    obtain rfl := h.nil_inv
    exact ⟨⟨a1, a2, a3⟩, rfl⟩
  exact ⟨l, r, e, h'⟩
abbrev grSh : List Sh := [.sl [.int .i64], .sl [.int .i64], .sl [.int .i64, .int .i64, .int .i64]]
theorem gr_of {ds : List CD} (h : Ty grSh ds) : ∃ g : Gr, ds = [Row g.obv, Row g.rev, LL g.links] := by
  obtain ⟨a, _, rfl, h1⟩ := row_of h
  obtain ⟨b, _, rfl, h2⟩ := row_of h1
  obtain ⟨l, _, rfl, h3⟩ := dbls_of h2
  obtain rfl := h3.nil_inv
  exact ⟨⟨a, b, l⟩, rfl⟩
end Go.Proofs.Ytgldpbghbkoolaa

