/-
  There is a minimal obstruction exactly if no order is without gaps, and the PQ-tree reduces every row exactly then.
-/
import Derived.Test.YtcimlelkeppoiaaAlD
import Derived.Test.YtcimlelkeppoiaaPlainF
import Derived.Test.YtcimlelkeppoiaaWalkD
import Derived.Test.YtcimlelkeppoiaaWalkC
import Derived.Test.YtcimlelkeppoiaaRows
set_option linter.unusedVariables false
set_option linter.unusedSimpArgs false
open Go Go.AL Go.RowKit
namespace Go.Proofs.Ytcimlelkeppoiaa
set_option maxRecDepth 20000
noncomputable section
/- coinage/coinagelaw29.ObstructionExists -/
abbrev c3_1 : AC := .reg [⟨(some 4), .mv (.k (.B false)), none⟩] false
abbrev c3_2 : AC := .reg [⟨(some 13), .call 4 [], none⟩,
  ⟨(some 14), .not (.t 13), none⟩,
  ⟨(some 15), .mv (.t 14), none⟩,
  ⟨(some 16), .mv (.t 0), (some (15, false))⟩,
  ⟨(some 17), .mv (.t 1), (some (15, false))⟩,
  ⟨(some 18), .call 5 [(.t 16), (.t 17)], (some (15, false))⟩,
  ⟨(some 19), .not (.t 18), (some (15, false))⟩,
  ⟨(some 20), .pick (.t 15) (.k (.B true)) (.t 19), none⟩,
  ⟨(some 21), .mv (.t 20), none⟩,
  ⟨(some 22), .mv (.t 0), (some (21, false))⟩,
  ⟨(some 23), .mv (.t 1), (some (21, false))⟩,
  ⟨(some 24), .call 6 [(.t 22), (.t 23)], (some (21, false))⟩,
  ⟨(some 25), .not (.t 24), (some (21, false))⟩,
  ⟨(some 26), .pick (.t 21) (.k (.B true)) (.t 25), none⟩] false
abbrev c3_3 : AC := .reg [⟨(some 27), .call 4 [], none⟩,
  ⟨(some 4), .mv (.t 27), none⟩] false
abbrev c3_4 : AC := .seq c3_3 .ret
abbrev c3_5 : AC := .cond (.t 26) c3_4 .skip
abbrev c3_6 : AC := .seq c3_2 c3_5
abbrev c3_7 : AC := .reg [⟨(some 29), .mv (.t 0), none⟩,
  ⟨(some 30), .mv (.t 1), none⟩,
  ⟨(some 31), .call 7 [(.t 29), (.t 30)], none⟩,
  ⟨(some 28), .mv (.t 31), none⟩,
  ⟨(some 32), .ext (.t 28) 0, none⟩,
  ⟨(some 33), .ext (.t 28) 1, none⟩,
  ⟨(some 34), .ext (.t 28) 2, none⟩,
  ⟨(some 5), .mv (.t 32), none⟩,
  ⟨(some 6), .mv (.t 33), none⟩,
  ⟨(some 7), .mv (.t 34), none⟩] false
abbrev c3_8 : AC := .reg [⟨(some 35), .mv (.t 0), none⟩,
  ⟨(some 36), .mv (.t 1), none⟩,
  ⟨(some 37), .call 8 [(.t 35), (.t 36)], none⟩,
  ⟨(some 8), .mv (.t 37), none⟩] false
abbrev c3_9 : AC := .reg [⟨(some 38), .mv (.t 8), none⟩,
  ⟨(some 39), .mv (.t 7), none⟩,
  ⟨(some 40), .bin .eql (.t 39) (.k (.I 7)), none⟩,
  ⟨(some 41), .beq true (.t 38) (.t 40), none⟩,
  ⟨(some 42), .mv (.t 41), none⟩,
  ⟨(some 43), .mv (.t 8), (some (42, false))⟩,
  ⟨(some 44), .not (.t 43), (some (42, false))⟩,
  ⟨(some 45), .mv (.t 44), (some (42, false))⟩,
  ⟨(some 46), .mv (.t 0), (some (45, true))⟩,
  ⟨(some 47), .mv (.t 1), (some (45, true))⟩,
  ⟨(some 48), .mv (.t 5), (some (45, true))⟩,
  ⟨(some 49), .mv (.t 6), (some (45, true))⟩,
  ⟨(some 50), .call 9 [(.t 46), (.t 47), (.t 48), (.t 49)], (some (45, true))⟩,
  ⟨(some 51), .not (.t 50), (some (45, true))⟩,
  ⟨(some 52), .pick (.t 45) (.t 51) (.k (.B false)), (some (42, false))⟩,
  ⟨(some 53), .pick (.t 42) (.k (.B true)) (.t 52), none⟩] false
abbrev c3_10 : AC := .reg [⟨(some 4), .mv (.k (.B false)), none⟩] false
abbrev c3_11 : AC := .seq c3_10 .ret
abbrev c3_12 : AC := .cond (.t 53) c3_11 .skip
abbrev c3_13 : AC := .seq c3_9 c3_12
abbrev c3_14 : AC := .reg [⟨(some 54), .mv (.t 0), none⟩,
  ⟨(some 55), .bin .lss (.t 54) (.k (.I 1)), none⟩] false
abbrev c3_15 : AC := .reg [⟨(some 56), .mv (.t 8), none⟩,
  ⟨(some 4), .mv (.t 56), none⟩] false
abbrev c3_16 : AC := .seq c3_15 .ret
abbrev c3_17 : AC := .cond (.t 55) c3_16 .skip
abbrev c3_18 : AC := .seq c3_14 c3_17
abbrev c3_19 : AC := .reg [⟨(some 58), .mv (.t 0), none⟩,
  ⟨(some 59), .call 10 [(.t 58)], none⟩,
  ⟨(some 57), .mv (.t 59), none⟩,
  ⟨(some 60), .ext (.t 57) 0, none⟩,
  ⟨(some 61), .ext (.t 57) 1, none⟩,
  ⟨(some 9), .mv (.t 60), none⟩,
  ⟨(some 10), .mv (.t 61), none⟩] false
abbrev c3_20 : AC := .reg [⟨(some 62), .mv (.t 10), none⟩,
  ⟨(some 63), .bin .eql (.t 62) (.k (.I 0)), none⟩,
  ⟨(some 11), .mv (.t 63), none⟩] false
abbrev c3_21 : AC := .reg [⟨(some 12), .mv (.k (.I 0)), none⟩] false
abbrev c3_22 : AC := .reg [⟨(some 64), .mv (.t 12), none⟩,
  ⟨(some 65), .mv (.t 1), none⟩,
  ⟨(some 66), .len (.t 65), none⟩,
  ⟨(some 67), .bin .lss (.t 64) (.t 66), none⟩] false
abbrev c3_23 : AC := .cond (.t 67) .skip (.exit 0)
abbrev c3_24 : AC := .seq c3_22 c3_23
abbrev c3_25 : AC := .reg [⟨(some 70), .mv (.t 9), none⟩,
  ⟨(some 71), .mv (.t 1), none⟩,
  ⟨(some 72), .mv (.t 12), none⟩,
  ⟨(some 73), .iad 1 (.t 71) (.t 72), none⟩,
  ⟨(some 74), .ld none (.t 73), none⟩,
  ⟨(some 75), .call 11 [(.t 70), (.t 74)], none⟩,
  ⟨(some 76), .bin .eql (.t 75) (.k (.I 0)), none⟩,
  ⟨(some 77), .mv (.t 76), none⟩,
  ⟨(some 78), .mv (.t 11), (some (77, true))⟩,
  ⟨(some 79), .pick (.t 77) (.t 78) (.k (.B false)), none⟩,
  ⟨(some 11), .mv (.t 79), none⟩] false
abbrev c3_26 : AC := .block 1 c3_25
abbrev c3_27 : AC := .reg [⟨(some 68), .mv (.t 12), none⟩,
  ⟨(some 69), .bin .add (.t 68) (.k (.I 1)), none⟩,
  ⟨(some 12), .mv (.t 69), none⟩] false
abbrev c3_28 : AC := .seq c3_26 c3_27
abbrev c3_29 : AC := .seq c3_24 c3_28
abbrev c3_30 : AC := .loop c3_29
abbrev c3_31 : AC := .block 0 c3_30
abbrev c3_32 : AC := .seq c3_21 c3_31
abbrev c3_33 : AC := .reg [⟨(some 80), .mv (.t 11), none⟩,
  ⟨(some 81), .mv (.t 8), none⟩,
  ⟨(some 82), .beq false (.t 80) (.t 81), none⟩,
  ⟨(some 4), .mv (.t 82), none⟩] false
abbrev c3_34 : AC := .seq c3_33 .ret
abbrev c3_35 : AC := .seq c3_32 c3_34
abbrev c3_36 : AC := .seq c3_20 c3_35
abbrev c3_37 : AC := .seq c3_19 c3_36
abbrev c3_38 : AC := .seq c3_18 c3_37
abbrev c3_39 : AC := .seq c3_13 c3_38
abbrev c3_40 : AC := .seq c3_8 c3_39
abbrev c3_41 : AC := .seq c3_7 c3_40
abbrev c3_42 : AC := .seq c3_6 c3_41
abbrev c3_43 : AC := .seq c3_1 c3_42
abbrev c3 : AC := c3_43
theorem code3 : fnCode Try.prog 3 = some (c3, [4], 83) := by kernel_rfl
end
set_option maxHeartbeats 8000000 in
theorem x11e (n : Nat) (hn : n ≤ 100) (T : N) (rows : List (List CD)) :
    FnW Try.prog 11 [.ptr 1000027 0, .c (Rw [])] (tob 1000027 2000 n T rows) [.c (.I 0)] (tob 1000027 2000 n T rows) [1000027] := by
  have g22 := x22 n (by omega) [] (by simp) (fun i hi => by simp at hi)
  unfold tob
  unfold Rw at g22 ⊢
  simp only [List.map_nil] at g22 ⊢
  refine fn_walkW code11 (by simp) (by rfl) ?_
  (repeat' (first | refine Both.mk ?_ ?_ | ((first | refine aw ?_ | refine aD ?_ | refine aX ?_ | refine cT ?_ | refine cF ?_ | refine cR (g22 ..) ?_ | refine cG (g22 ..) ?_); try simp (disch := omega) only [go_sem, seval, reduceCtorEq, List.length_nil]) | refine aI (fun hc => ?_) fun hc => ?_ | simp (disch := omega) only [go_sem, seval, reduceCtorEq, List.length_nil] | (refine And.intro ?_ ?_; focus (first | (intros; omega) | (intros; simp_all; done))) | refine aC ?_ ?_ | refine aC' ?_ ?_ | refine aA ?_ ?_ | fail))
theorem Row_Rw {l : List Int} (h : ∀ x ∈ l, 0 ≤ x) : Row l = Rw (toN l) := by
  show CD.sl 1 _ = CD.sl 1 _
  congr 1
  unfold toN
  rw [List.map_map]
  refine List.map_congr_left fun x hx => ?_
  have := h x hx
  show [CD.I x] = [CD.I ((x.toNat : Nat) : Int)]
  rw [Int.toNat_of_nonneg this]
structure LX where
  i : Nat
  fine : Bool
  T : N
  rows : List (List CD)
theorem asc_N {N : Nat} {l : List Int} (h : asc l 0 ((N : Int) - 1) = true) : AscN N (toN l) := by
  have h' := of_decide_eq_true h
  intro i hi
  have hi' : i < l.length := by simpa [toN] using hi
  have e : ∀ j, j < l.length → nth (toN l) j = (nth l j).toNat := fun j hj => by
    rw [nth_eq _ _ (by simpa [toN] using hj), nth_eq _ _ hj]
    simp [toN]
  obtain ⟨a1, a2, a3⟩ := h' i hi'
  rw [e i hi']
  refine ⟨by omega, fun hp => ?_⟩
  have b := a3 hp
  rw [e (i - 1) (by omega)]
  have b1 := (h' (i - 1) (by omega)).1
  omega
theorem h3a {Q : Exit → St → Prop} {σ : St} (h : Hold (AW Try.prog c3_36 Q σ)) : AW Try.prog c3_36 Q σ := h.out
theorem h3b {Q : Exit → St → Prop} {σ : St} (h : Hold (AW Try.prog c3_35 Q σ)) : AW Try.prog c3_35 Q σ := h.out
theorem min_find {n : Int} {t : List (List Int)} (hv : validT n t = true) (hp : possR n t = false) :
    minB (obs possR n t) (findR possR n t) (findC possR n t) = true ∧ (findR possR n t).length ≤ 1000000 ∧ (findC possR n t).length ≤ 1000000 := by
  have ho : obs possR n t (upto t.length) (upto n.toNat) = true := by rw [obs_all hv, hp]; rfl
  obtain ⟨m1, m2, m3, m4⟩ := find_min hv ho
  have hv' := of_decide_eq_true hv
  obtain ⟨p1, p2⟩ := part_of m1
  have l1 := asc_len p1
  have l2 := asc_len p2
  refine ⟨?_, by omega, by omega⟩
  unfold minB
  rw [(obs_iff hv _ _).2 ⟨m1, m2⟩]
  have e1 : (∀ i, i < (findR possR n t).length → obs possR n t (wo (findR possR n t) i) (findC possR n t) = false) := fun i hi => by
    cases h : obs possR n t (wo (findR possR n t) i) (findC possR n t) with
    | false => rfl
    | true => exact absurd (m3 i hi) ((obs_iff hv _ _).1 h).2
  have e2 : (∀ j, j < (findC possR n t).length → obs possR n t (findR possR n t) (wo (findC possR n t) j) = false) := fun i hi => by
    cases h : obs possR n t (findR possR n t) (wo (findC possR n t) i) with
    | false => rfl
    | true => exact absurd (m4 i hi) ((obs_iff hv _ _).1 h).2
  rw [decide_eq_true e1, decide_eq_true e2]; rfl
theorem zero_poss {n : Int} {t : List (List Int)} (hv : validT n t = true) (h : n < 1) : possR n t = true := by
  have hv' := of_decide_eq_true hv
  refine (poss_ord hv).2 ⟨[], ⟨List.nodup_nil, fun x => ?_⟩, fun r _ => rfl⟩
  simp; omega
set_option maxHeartbeats 8000000 in
theorem x3f (n : Int) (t : List (List Int)) (hf : few n t = false) : FnR Try.prog 3 [.I n, .c (Tab t)] [.c (.B true)] := by
  have g25 := f25 n t
  rw [hf] at g25
  refine fn_walk code3 (by simp) ?_
  (repeat' (first | refine Both.mk ?_ ?_ | ((first | refine aw ?_ | refine aD ?_ | refine aX ?_ | refine cT ?_ | refine cF ?_ | refine cR (f24 ..) ?_ | refine cG (f24 ..) ?_ | refine cR (g25 ..) ?_ | refine cG (g25 ..) ?_); try simp (disch := omega) only [go_sem, seval, reduceCtorEq]) | refine aI (fun hc => ?_) fun hc => ?_ | simp (disch := omega) only [go_sem, seval, reduceCtorEq] | (refine And.intro ?_ ?_; focus (first | (intros; omega) | (intros; simp_all; done))) | refine aC ?_ ?_ | refine aC' ?_ ?_ | refine aA ?_ ?_ | fail))
set_option maxHeartbeats 8000000 in
theorem x3v (n : Int) (t : List (List Int)) (hf : few n t = true) (hv : validT n t = false) : FnR Try.prog 3 [.I n, .c (Tab t)] [.c (.B true)] := by
  have g25 := f25 n t
  rw [hf] at g25
  have g34 := f34 n t
  rw [hv] at g34
  refine fn_walk code3 (by simp) ?_
  (repeat' (first | refine Both.mk ?_ ?_ | ((first | refine aw ?_ | refine aD ?_ | refine aX ?_ | refine cT ?_ | refine cF ?_ | refine cR (f24 ..) ?_ | refine cG (f24 ..) ?_ | refine cR (g25 ..) ?_ | refine cG (g25 ..) ?_ | refine cR (g34 ..) ?_ | refine cG (g34 ..) ?_); try simp (disch := omega) only [go_sem, seval, reduceCtorEq]) | refine aI (fun hc => ?_) fun hc => ?_ | simp (disch := omega) only [go_sem, seval, reduceCtorEq] | (refine And.intro ?_ ?_; focus (first | (intros; omega) | (intros; simp_all; done))) | refine aC ?_ ?_ | refine aC' ?_ ?_ | refine aA ?_ ?_ | fail))
set_option maxHeartbeats 8000000 in
theorem x3z (n : Int) (t : List (List Int)) (hf : few n t = true) (hv : validT n t = true) (h : n < 1) : FnR Try.prog 3 [.I n, .c (Tab t)] [.c (.B true)] := by
  have g25 := f25 n t
  rw [hf] at g25
  have g34 := f34 n t
  rw [hv] at g34
  have hp := zero_poss hv h
  have g36 := f36 n t
  have g37 := f37 n t
  rw [poss_eq] at g36 g37
  rw [hp] at g36
  have fe : findE possR n t = 7 := by
    unfold findE; rw [hv, obs_all hv, hp]; rfl
  have fd : ∀ l, dOf 7 l = .nil := fun l => rfl
  rw [fe, fd, fd] at g37
  have f1 : (n < 1) = True := eq_true h
  refine fn_walk code3 (by simp) ?_
  (repeat' (first | refine Both.mk ?_ ?_ | ((first | refine aw ?_ | refine aD ?_ | refine aX ?_ | refine cT ?_ | refine cF ?_ | refine cR (f24 ..) ?_ | refine cG (f24 ..) ?_ | refine cR (g25 ..) ?_ | refine cG (g25 ..) ?_ | refine cR (g34 ..) ?_ | refine cG (g34 ..) ?_ | refine cR (g36 ..) ?_ | refine cG (g36 ..) ?_ | refine cR (g37 ..) ?_ | refine cG (g37 ..) ?_); try simp (disch := omega) only [go_sem, seval, reduceCtorEq, f1]) | refine aI (fun hc => ?_) fun hc => ?_ | simp (disch := omega) only [go_sem, seval, reduceCtorEq, f1] | (refine And.intro ?_ ?_; focus (first | (intros; omega) | (intros; simp_all; done))) | refine aC ?_ ?_ | refine aC' ?_ ?_ | refine aA ?_ ?_ | fail))
  all_goals first | exact absurd hc (by decide) | skip
set_option maxHeartbeats 8000000 in
theorem x3y (N : Nat) (t : List (List Int)) (hf : few N t = true) (hv : validT N t = true) (h1 : 1 ≤ N) : FnR Try.prog 3 [.I N, .c (Tab t)] [.c (.B true)] := by
  have g25 := f25 N t
  rw [hf] at g25
  have g34 := f34 N t
  rw [hv] at g34
  have hf' := of_decide_eq_true hf
  have hv' := validT_of hv
  have h5 : N ≤ 5 := by omega
  obtain ⟨T0, hT, hR⟩ := root h1 h5
  have g10 := x10 N ⟨h1, h5⟩ T0 hT
  have f1 : ((N : Int) < 1) = False := eq_false (by omega)
  have hrow : ∀ i, i < t.length → Row (nth t i) = Rw (nth (t.map toN) i) ∧ AscN N (nth (t.map toN) i) ∧ (nth (t.map toN) i).length ≤ 100 := fun i hi => by
    have ha := hv'.2.2.2 i hi
    have e : nth (t.map toN) i = toN (nth t i) := by rw [nth_eq _ i (by simpa using hi), nth_eq _ i hi, List.getElem_map]
    have hl := asc_len ha
    rw [e]
    exact ⟨Row_Rw fun x hx => (asc_mem ha hx).1, asc_N ha, by unfold toN; rw [List.length_map]; omega⟩
  have hend : ∀ fine T, LI N (t.map toN) t.length fine T → fine = possR N t := fun fine T h => by
    have h := LI.fin (t := t.map toN) (fine := fine) (T := T) h1 h5 (by rw [List.length_map]; exact h)
    have h' := poss_ord hv
    rw [Int.toNat_natCast] at h'
    rw [Bool.eq_iff_iff, h, h']
  have hloop : AW Try.prog c3_36 (retQ [4] [.c (.B true)]) ⟨83, [(0, .I (N : Int)), (1, .c (Tab t)), (8, .c (.B (possR N t))), (9, .ptr 27 0), (10, .c (.I 0))], [(27, .box 47 [.I (N : Int), .c (ncd T0), .c .nil])]⟩ := by
    refine AW_nilB 27 2 2000 25 1 47 [.I (N : Int), .c (ncd T0), .c .nil] (by rfl) (by rfl) ?_
    simp (disch := omega) only [go_sem, seval, reduceCtorEq]
    (repeat' (first | (with_reducible refine h3b ?_) | refine Both.mk ?_ ?_ | ((first | refine aw ?_ | refine aD ?_ | refine aX ?_ | refine cT ?_ | refine cF ?_); try simp (disch := omega) only [go_sem, seval, reduceCtorEq]) | refine aI (fun hc => ?_) fun hc => ?_ | simp (disch := omega) only [go_sem, seval, reduceCtorEq] | (refine And.intro ?_ ?_; focus (first | (intros; omega) | (intros; simp_all; done))) | refine aA ?_ ?_ | fail))
    refine ⟨?_⟩
    (repeat' (first | refine Both.mk ?_ ?_ | ((first | refine aw ?_ | refine aD ?_ | refine aX ?_ | refine cT ?_ | refine cF ?_); try simp (disch := omega) only [go_sem, seval, reduceCtorEq]) | refine aI (fun hc => ?_) fun hc => ?_ | simp (disch := omega) only [go_sem, seval, reduceCtorEq] | (refine And.intro ?_ ?_; focus (first | (intros; omega) | (intros; simp_all; done))) | refine aA ?_ ?_ | fail))
    refine AW_loopK [1, 8, 9] [11, 12, 64, 65, 66, 67, 68, 69, 70, 71, 72, 73, 74, 75, 76, 77, 78, 79] (fun x : LX => x.i ≤ t.length ∧ x.rows.length ≤ x.i ∧ LI N (t.map toN) x.i x.fine x.T) (fun x => [(11, .c (.B x.fine)), (12, .I (x.i : Int))]) (fun x => [(27, .box 47 [.I (N : Int), .c (ncd x.T), .own 2000]), (2000, .arr 25 1 x.rows)]) (fun x => t.length - x.i) ⟨0, true, T0, []⟩ ⟨by simp, by simp, LI.nil hR⟩ ?_ ?_
    · simp (disch := omega) only [go_sem, seval, reduceCtorEq, Int.natCast_zero]
    · rintro ⟨i, fine, T, rows⟩ ⟨hi, hrl, hL⟩
      simp only at hi hrl hL ⊢
      rcases Nat.lt_or_ge i t.length with hil | hil
      · have hkk : ((i : Int) < (t.length : Int)) = True := eq_true (by omega)
        obtain ⟨r1, r2, r3⟩ := hrow i hil
        have hge : (t.map fun r => [Row r]).getD i [] = [Rw (nth (t.map toN) i)] := by rw [getD_map (fun r => [Row r]) t i [] hil, r1]
        by_cases h0 : nth (t.map toN) i = []
        · have hL' := hL.skip h0
          have g11 : FnW Try.prog 11 [.ptr 27 0, .c (.sl 1 [])] [(27, .box 47 [.I (N : Int), .c (ncd T), .own 2000]), (2000, .arr 25 1 rows)] [.c (.I 0)] [(27, .box 47 [.I (N : Int), .c (ncd T), .own 2000]), (2000, .arr 25 1 rows)] [27] := FnW.low (x11e N (by omega) T rows)
          rw [h0] at hge
          have hge : (t.map fun r => [Row r]).getD i [] = [.sl 1 []] := hge
          (repeat' (first | refine Both.mk ?_ ?_ | ((first | refine aw ?_ | refine aD ?_ | refine aX ?_ | refine cW (g11 ..) (by simp (disch := omega) only [go_sem, seval, reduceCtorEq, hkk, hge, List.length_map, Int.toNat_natCast]) ?_ | refine cT ?_ | refine cF ?_); try simp (disch := omega) only [go_sem, seval, reduceCtorEq, hkk, hge, List.length_map, Int.toNat_natCast]) | refine aI (fun hc => ?_) fun hc => ?_ | simp (disch := omega) only [go_sem, seval, reduceCtorEq, hkk, hge, List.length_map, Int.toNat_natCast] | (refine And.intro ?_ ?_; focus (first | (intros; omega) | (intros; simp_all; done))) | refine aA ?_ ?_ | fail))
          all_goals first | omega | skip
          all_goals (
            refine .mk ⟨i + 1, fine, T, rows⟩ ⟨by simp only; omega, by simp only; omega, hL'⟩ (by simp only; omega) ?_
            simp (disch := omega) only [go_sem, seval, reduceCtorEq, Int.natCast_add, Int.natCast_one])
        · have hlt : ∀ x ∈ nth (t.map toN) i, x < N := fun x hx => by
            obtain ⟨j, hj, e⟩ := List.getElem_of_mem hx
            have := (r2 j hj).1
            rw [nth_eq _ j hj, e] at this; exact this
          obtain ⟨⟨q1, q2, q3⟩, q4, q5⟩ := hL.row h1 h5 (by simpa using hil) hlt h0
          have hok := x23 (nth (t.map toN) i) T q1 q2 q3
          cases hred : red (inR (nth (t.map toN) i)) T with
          | none =>
            obtain ⟨d, hd⟩ := hok.2 hred
            have hL' := q4 hred
            have g11 : FnW Try.prog 11 [.ptr 27 0, .c (Rw (nth (t.map toN) i))] [(27, .box 47 [.I (N : Int), .c (ncd T), .own 2000]), (2000, .arr 25 1 rows)] [.c (.I 10)] [(27, .box 47 [.I (N : Int), .c (ncd T), .own 2000]), (2000, .arr 25 1 rows)] [27] := FnW.low (x11n N (by omega) T rows _ r2 r3 h0 d hd)
            generalize Rw (nth (t.map toN) i) = row at *
            (repeat' (first | refine Both.mk ?_ ?_ | ((first | refine aw ?_ | refine aD ?_ | refine aX ?_ | refine cW (g11 ..) (by simp (disch := omega) only [go_sem, seval, reduceCtorEq, hkk, hge, List.length_map, Int.toNat_natCast]) ?_ | refine cT ?_ | refine cF ?_); try simp (disch := omega) only [go_sem, seval, reduceCtorEq, hkk, hge, List.length_map, Int.toNat_natCast]) | refine aI (fun hc => ?_) fun hc => ?_ | simp (disch := omega) only [go_sem, seval, reduceCtorEq, hkk, hge, List.length_map, Int.toNat_natCast] | (refine And.intro ?_ ?_; focus (first | (intros; omega) | (intros; simp_all; done))) | refine aA ?_ ?_ | fail))
            all_goals first | omega | skip
            all_goals (
              refine .mk ⟨i + 1, false, T, rows⟩ ⟨by simp only; omega, by simp only; omega, hL'⟩ (by simp only; omega) ?_
              simp (disch := omega) only [go_sem, seval, reduceCtorEq, Int.natCast_add, Int.natCast_one])
          | some T' =>
            have hd := hok.1 T' hred
            have hL' := q5 T' hred
            have g11 : FnW Try.prog 11 [.ptr 27 0, .c (Rw (nth (t.map toN) i))] [(27, .box 47 [.I (N : Int), .c (ncd T), .own 2000]), (2000, .arr 25 1 rows)] [.c (.I 0)] [(27, .box 47 [.I (N : Int), .c (ncd T'), .own 2000]), (2000, .arr 25 1 (rows ++ [[Rw (nth (t.map toN) i)]]))] [27] := FnW.low (x11y N (by omega) T rows _ r2 r3 h0 (by omega) T' hd)
            generalize Rw (nth (t.map toN) i) = row at *
            (repeat' (first | refine Both.mk ?_ ?_ | ((first | refine aw ?_ | refine aD ?_ | refine aX ?_ | refine cW (g11 ..) (by simp (disch := omega) only [go_sem, seval, reduceCtorEq, hkk, hge, List.length_map, Int.toNat_natCast]) ?_ | refine cT ?_ | refine cF ?_); try simp (disch := omega) only [go_sem, seval, reduceCtorEq, hkk, hge, List.length_map, Int.toNat_natCast]) | refine aI (fun hc => ?_) fun hc => ?_ | simp (disch := omega) only [go_sem, seval, reduceCtorEq, hkk, hge, List.length_map, Int.toNat_natCast] | (refine And.intro ?_ ?_; focus (first | (intros; omega) | (intros; simp_all; done))) | refine aA ?_ ?_ | fail))
            all_goals first | omega | skip
            all_goals (
              refine .mk ⟨i + 1, fine, T', rows ++ [[row]]⟩ ⟨by simp only; omega, by simp only [List.length_append, List.length_cons, List.length_nil]; omega, hL'⟩ (by simp only; omega) ?_
              simp (disch := omega) only [go_sem, seval, reduceCtorEq, Int.natCast_add, Int.natCast_one])
      · obtain rfl : i = t.length := by omega
        have hkk : ((t.length : Int) < (t.length : Int)) = False := eq_false (by omega)
        rw [hend fine T hL]
        cases possR N t
        · (repeat' (first | refine Both.mk ?_ ?_ | ((first | refine aw ?_ | refine aD ?_ | refine aX ?_ | refine cT ?_ | refine cF ?_); try simp (disch := omega) only [go_sem, seval, reduceCtorEq, hkk, List.length_map]) | refine aI (fun hc => ?_) fun hc => ?_ | simp (disch := omega) only [go_sem, seval, reduceCtorEq, hkk, List.length_map] | (refine And.intro ?_ ?_; focus (first | (intros; omega) | (intros; simp_all; done))) | refine aA ?_ ?_ | fail))
          all_goals first | exact absurd hc (by decide) | decide | skip
        · (repeat' (first | refine Both.mk ?_ ?_ | ((first | refine aw ?_ | refine aD ?_ | refine aX ?_ | refine cT ?_ | refine cF ?_); try simp (disch := omega) only [go_sem, seval, reduceCtorEq, hkk, List.length_map]) | refine aI (fun hc => ?_) fun hc => ?_ | simp (disch := omega) only [go_sem, seval, reduceCtorEq, hkk, List.length_map] | (refine And.intro ?_ ?_; focus (first | (intros; omega) | (intros; simp_all; done))) | refine aA ?_ ?_ | fail))
          all_goals first | exact absurd hc (by decide) | decide | skip
  have g36 := f36 N t
  have g37 := f37 N t
  rw [poss_eq] at g36 g37
  cases hp : possR N t with
  | true =>
    have fe : findE possR N t = 7 := by
      unfold findE; rw [hv, Int.toNat_natCast]
      have := obs_all hv
      rw [Int.toNat_natCast] at this
      rw [this, hp]; rfl
    have fd : ∀ l, dOf 7 l = .nil := fun l => rfl
    rw [fe, fd, fd] at g37
    rw [hp] at g36 hloop
    refine fn_walk code3 (by simp) ?_
    (repeat' (first | (with_reducible refine h3a ?_) | refine Both.mk ?_ ?_ | ((first | refine aw ?_ | refine aD ?_ | refine aX ?_ | refine CallAt.mkG (g10 ..) (by simp (disch := omega) only [go_sem, seval, reduceCtorEq, f1]) ?_ | refine cT ?_ | refine cF ?_ | refine cR (f24 ..) ?_ | refine cG (f24 ..) ?_ | refine cR (g25 ..) ?_ | refine cG (g25 ..) ?_ | refine cR (g34 ..) ?_ | refine cG (g34 ..) ?_ | refine cR (g36 ..) ?_ | refine cG (g36 ..) ?_ | refine cR (g37 ..) ?_ | refine cG (g37 ..) ?_); try simp (disch := omega) only [go_sem, seval, reduceCtorEq, f1]) | refine aI (fun hc => ?_) fun hc => ?_ | simp (disch := omega) only [go_sem, seval, reduceCtorEq, f1] | (refine And.intro ?_ ?_; focus (first | (intros; omega) | (intros; simp_all; done))) | refine aC ?_ ?_ | refine aC' ?_ ?_ | refine aA ?_ ?_ | fail))
    all_goals first | exact absurd hc (by decide) | skip
    refine ⟨AW_le _ ?_ hloop⟩
    simp (disch := omega) only [go_sem, seval, reduceCtorEq]
  | false =>
    have fe : findE possR N t = 0 := by
      unfold findE; rw [hv, Int.toNat_natCast]
      have := obs_all hv
      rw [Int.toNat_natCast] at this
      rw [this, hp]; rfl
    have fd : ∀ l, dOf 0 l = Row l := fun l => rfl
    obtain ⟨m1, m2, m3⟩ := min_find hv hp
    have g32 := f32 N t (findR possR N t) (findC possR N t) m2 m3
    rw [poss_eq, m1] at g32
    rw [fe, fd, fd] at g37
    rw [hp] at g36 hloop
    generalize findR possR N t = R at *
    generalize findC possR N t = C at *
    refine fn_walk code3 (by simp) ?_
    (repeat' (first | (with_reducible refine h3a ?_) | refine Both.mk ?_ ?_ | ((first | refine aw ?_ | refine aD ?_ | refine aX ?_ | refine CallAt.mkG (g10 ..) (by simp (disch := omega) only [go_sem, seval, reduceCtorEq, f1]) ?_ | refine cT ?_ | refine cF ?_ | refine cR (f24 ..) ?_ | refine cG (f24 ..) ?_ | refine cR (g25 ..) ?_ | refine cG (g25 ..) ?_ | refine cR (g34 ..) ?_ | refine cG (g34 ..) ?_ | refine cR (g36 ..) ?_ | refine cG (g36 ..) ?_ | refine cR (g37 ..) ?_ | refine cG (g37 ..) ?_ | refine cR (g32 ..) ?_ | refine cG (g32 ..) ?_); try simp (disch := omega) only [go_sem, seval, reduceCtorEq, f1]) | refine aI (fun hc => ?_) fun hc => ?_ | simp (disch := omega) only [go_sem, seval, reduceCtorEq, f1] | (refine And.intro ?_ ?_; focus (first | (intros; omega) | (intros; simp_all; done))) | refine aC ?_ ?_ | refine aC' ?_ ?_ | refine aA ?_ ?_ | fail))
    all_goals first | exact absurd hc (by decide) | skip
    refine ⟨AW_le _ ?_ hloop⟩
    simp (disch := omega) only [go_sem, seval, reduceCtorEq]
end Go.Proofs.Ytcimlelkeppoiaa

open Go Go.AL Go.RowKit
namespace Go.Proofs.Ytcimlelkeppoiaa
theorem Try.own : ownKnob Try.prog.godebug = none := by kernel_rfl
theorem Try.laidOut : laidOutB Try.prog = true := by kernel_rfl
theorem ints_of {xs : List (List CD)} (h : ∀ x ∈ xs, Ty [.int .i64] x) : ∃ l : List Int, xs = l.map fun x => [CD.I x] := by
  refine map_of (f := fun x : Int => [CD.I x]) fun x hx => ?_
  obtain ⟨a, _, rfl, _, h⟩ := (h x hx).int_inv
  obtain rfl := h.nil_inv
  exact ⟨a, rfl⟩
theorem row_of {ds : List CD} {s : List Sh} (h : Ty (.sl [.int .i64] :: s) ds) : ∃ (l : List Int) (r : List CD), ds = Row l :: r ∧ Ty s r := by
  obtain ⟨xs, r, e, hx, h'⟩ := h.sl_inv
  obtain ⟨l, rfl⟩ := ints_of hx
  exact ⟨l, r, e, h'⟩
theorem tab_of {ds : List CD} {s : List Sh} (h : Ty (.sl [.sl [.int .i64]] :: s) ds) : ∃ (t : List (List Int)) (r : List CD), ds = Tab t :: r ∧ Ty s r := by
  obtain ⟨xs, r, e, hx, h'⟩ := h.sl_inv
  obtain ⟨l, rfl⟩ := map_of (f := fun r : List Int => [Row r]) fun x hx' => by
    obtain ⟨l, r, e1, h1⟩ := row_of (hx x hx')
    obtain rfl := h1.nil_inv
    exact ⟨l, e1⟩
  exact ⟨l, r, e, h'⟩
end Go.Proofs.Ytcimlelkeppoiaa

open Go Go.AL Go.RowKit
namespace Go.Proofs.Ytcimlelkeppoiaa
theorem x3 (n : Int) (t : List (List Int)) : FnR Try.prog 3 [.I n, .c (Tab t)] [.c (.B true)] := by
  cases hf : few n t with
  | false => exact x3f n t hf
  | true =>
    cases hv : validT n t with
    | false => exact x3v n t hf hv
    | true =>
      by_cases h : n < 1
      · exact x3z n t hf hv h
      · obtain ⟨N, rfl⟩ : ∃ N : Nat, n = (N : Int) := ⟨n.toNat, by omega⟩
        exact x3y N t hf hv (by omega)
theorem ObstructionExists_fn : ∀ xs, TyArgs [(false, [.int .i64]), (false, [.sl [.sl [.int .i64]]])] xs → FnR Try.prog 3 xs [.c (.B true)] := by
  intro xs h
  obtain ⟨d0, _, rfl, h0, h⟩ := h.cons_inv
  obtain ⟨d1, _, rfl, h1, h⟩ := h.cons_inv
  obtain rfl := h.nil_inv
  obtain ⟨x0, _, rfl, _, g0⟩ := h0.int_inv
  obtain rfl := g0.nil_inv
  obtain ⟨x1, _, rfl, g1⟩ := tab_of h1
  obtain rfl := g1.nil_inv
  exact x3 x0 x1
theorem ObstructionExists_holds : Rows.ObstructionExistsSaid :=
  OpenClaim.holds_of_wide 3 Try.f3 rfl rfl rfl rfl rfl rfl rfl ⟨rfl, rfl, rfl, rfl, rfl⟩ rfl rfl rfl rfl rfl (by kernel_rfl) Try.func3 (by kernel_rfl)
    (of_decide_eq_true (by kernel_rfl)) (by unfold Func.isWrapper; first | (rw [if_pos (by decide +kernel)]; kernel_rfl) | (rw [if_neg (by decide +kernel)]; exact ⟨rfl, rfl⟩))
    (fun os started H enc _ => law_lifted (s := Rows.obstructionExistsSpec) (C := Try.checked) (n := 12) Try.own Try.laidOut (by kernel_rfl) Try.func3 (by decide +kernel) rfl (by kernel_rfl) rfl (by kernel_rfl) (fun H ds h => by
      match ds, h with
      | [d1, d2], _ => rfl) ObstructionExists_fn os started H enc
      (ChangeSpec.witness6 (enc := enc) (C := Try.checked) false ⟨#[], #[.int .i64 0, .slice none 0 0], []⟩ 12 (by kernel_rfl) (by kernel_rfl) (by kernel_rfl) (by kernel_rfl)))
end Go.Proofs.Ytcimlelkeppoiaa

