/-
  Lemmas for the proof: no statement of its own.
-/
import Derived.Test.YtdmngdphgnnoiaaAlD
import Derived.Test.YtdmngdphgnnoiaaWalkG
import Derived.Test.YtdmngdphgnnoiaaWalkF
set_option linter.unusedVariables false
set_option linter.unusedSimpArgs false
open Go Go.AL Go.RowKit
namespace Go.Proofs.Ytdmngdphgnnoiaa
set_option maxRecDepth 20000
/- coinage/difference.Refute -/
abbrev c11_1 : AC := .reg [⟨(some 4), .mv (.k (.c .nil)), none⟩,
  ⟨(some 5), .mv (.k (.I 0)), none⟩] false
abbrev c11_2 : AC := .reg [⟨(some 11), .mv (.t 0), none⟩,
  ⟨(some 12), .mv (.t 1), none⟩,
  ⟨(some 13), .call 9 [(.t 11), (.t 12)], none⟩,
  ⟨(some 14), .not (.t 13), none⟩] false
abbrev c11_3 : AC := .reg [⟨(some 4), .mv (.k (.c .nil)), none⟩,
  ⟨(some 5), .mv (.k (.I 1)), none⟩] false
abbrev c11_4 : AC := .seq c11_3 .ret
abbrev c11_5 : AC := .cond (.t 14) c11_4 .skip
abbrev c11_6 : AC := .seq c11_2 c11_5
abbrev c11_7 : AC := .reg [⟨(some 16), .mv (.t 0), none⟩,
  ⟨(some 17), .mv (.t 1), none⟩,
  ⟨(some 18), .call 29 [(.t 16), (.t 17)], none⟩,
  ⟨(some 15), .mv (.t 18), none⟩,
  ⟨(some 19), .ext (.t 15) 0, none⟩,
  ⟨(some 20), .ext (.t 15) 1, none⟩,
  ⟨(some 6), .mv (.t 19), none⟩,
  ⟨(some 7), .mv (.t 20), none⟩] false
abbrev c11_8 : AC := .reg [⟨(some 21), .mv (.t 7), none⟩] false
abbrev c11_9 : AC := .reg [⟨(some 4), .mv (.k (.c .nil)), none⟩,
  ⟨(some 5), .mv (.k (.I 7)), none⟩] false
abbrev c11_10 : AC := .seq c11_9 .ret
abbrev c11_11 : AC := .cond (.t 21) c11_10 .skip
abbrev c11_12 : AC := .seq c11_8 c11_11
abbrev c11_13 : AC := .seq c11_7 c11_12
abbrev c11_14 : AC := .reg [⟨(some 8), .mv (.k (.I 2)), none⟩] false
abbrev c11_15 : AC := .reg [⟨(some 22), .mv (.t 8), none⟩,
  ⟨(some 23), .mv (.t 0), none⟩,
  ⟨(some 24), .bin .leq (.t 22) (.t 23), none⟩] false
abbrev c11_16 : AC := .cond (.t 24) .skip (.exit 0)
abbrev c11_17 : AC := .seq c11_15 c11_16
abbrev c11_18 : AC := .reg [⟨(some 27), .mv (.t 1), none⟩,
  ⟨(some 28), .len (.t 27), none⟩,
  ⟨(some 29), .mv (.k (.I 0)), none⟩] false
abbrev c11_19 : AC := .reg [⟨(some 30), .bin .lss (.t 29) (.t 28), none⟩] false
abbrev c11_20 : AC := .cond (.t 30) .skip (.exit 2)
abbrev c11_21 : AC := .reg [⟨(some 31), .mv (.t 29), none⟩,
  ⟨(some 9), .mv (.t 31), none⟩] false
abbrev c11_22 : AC := .reg [⟨(some 32), .mv (.t 0), none⟩,
  ⟨(some 33), .mv (.t 1), none⟩,
  ⟨(some 34), .mv (.t 9), none⟩,
  ⟨(some 35), .mv (.t 8), none⟩,
  ⟨(some 36), .call 30 [(.t 32), (.t 33), (.t 34), (.t 35)], none⟩,
  ⟨(some 10), .mv (.t 36), none⟩] false
abbrev c11_23 : AC := .reg [⟨(some 37), .mv (.t 10), none⟩,
  ⟨(some 38), .isnil true (.t 37), none⟩] false
abbrev c11_24 : AC := .reg [⟨(some 39), .mv (.t 10), none⟩,
  ⟨(some 4), .mv (.t 39), none⟩,
  ⟨(some 5), .mv (.k (.I 0)), none⟩] false
abbrev c11_25 : AC := .seq c11_24 .ret
abbrev c11_26 : AC := .cond (.t 38) c11_25 .skip
abbrev c11_27 : AC := .seq c11_23 c11_26
abbrev c11_28 : AC := .seq c11_22 c11_27
abbrev c11_29 : AC := .seq c11_21 c11_28
abbrev c11_30 : AC := .block 3 c11_29
abbrev c11_31 : AC := .reg [⟨(some 40), .bin .add (.t 29) (.k (.I 1)), none⟩,
  ⟨(some 29), .mv (.t 40), none⟩] false
abbrev c11_32 : AC := .seq c11_30 c11_31
abbrev c11_33 : AC := .seq c11_20 c11_32
abbrev c11_34 : AC := .seq c11_19 c11_33
abbrev c11_35 : AC := .loop c11_34
abbrev c11_36 : AC := .block 2 c11_35
abbrev c11_37 : AC := .seq c11_18 c11_36
abbrev c11_38 : AC := .block 1 c11_37
abbrev c11_39 : AC := .reg [⟨(some 25), .mv (.t 8), none⟩,
  ⟨(some 26), .bin .add (.t 25) (.k (.I 1)), none⟩,
  ⟨(some 8), .mv (.t 26), none⟩] false
abbrev c11_40 : AC := .seq c11_38 c11_39
abbrev c11_41 : AC := .seq c11_17 c11_40
abbrev c11_42 : AC := .loop c11_41
abbrev c11_43 : AC := .block 0 c11_42
abbrev c11_44 : AC := .seq c11_14 c11_43
abbrev c11_45 : AC := .reg [⟨(some 4), .mv (.k (.c .nil)), none⟩,
  ⟨(some 5), .mv (.k (.I 7)), none⟩] false
abbrev c11_46 : AC := .seq c11_45 .ret
abbrev c11_47 : AC := .seq c11_44 c11_46
abbrev c11_48 : AC := .seq c11_13 c11_47
abbrev c11_49 : AC := .seq c11_6 c11_48
abbrev c11_50 : AC := .seq c11_1 c11_49
abbrev c11 : AC := c11_50
theorem code11 : fnCode Try.prog 11 = some (c11, [4, 5], 41) := by kernel_rfl
/- coinage/difference.Tight -/
abbrev c16_1 : AC := .reg [⟨(some 8), .mv (.k (.I 0)), none⟩,
  ⟨(some 9), .mv (.k (.B false)), none⟩,
  ⟨(some 10), .mv (.k (.I 0)), none⟩] false
abbrev c16_2 : AC := .reg [⟨(some 14), .mv (.t 0), none⟩,
  ⟨(some 15), .mv (.t 1), none⟩,
  ⟨(some 16), .call 9 [(.t 14), (.t 15)], none⟩,
  ⟨(some 17), .not (.t 16), none⟩,
  ⟨(some 13), .mv (.t 17), none⟩] false
abbrev c16_3 : AC := .reg [⟨(some 8), .mv (.k (.I 0)), none⟩,
  ⟨(some 9), .mv (.k (.B false)), none⟩,
  ⟨(some 10), .mv (.k (.I 1)), none⟩] false
abbrev c16_4 : AC := .seq c16_3 .ret
abbrev c16_5 : AC := .reg [⟨(some 19), .mv (.t 2), none⟩,
  ⟨(some 20), .bin .lss (.t 19) (.k (.I 0)), none⟩,
  ⟨(some 21), .mv (.t 20), none⟩,
  ⟨(some 22), .mv (.t 2), (some (21, false))⟩,
  ⟨(some 23), .mv (.t 0), (some (21, false))⟩,
  ⟨(some 24), .bin .geq (.t 22) (.t 23), (some (21, false))⟩,
  ⟨(some 25), .pick (.t 21) (.k (.B true)) (.t 24), none⟩,
  ⟨(some 26), .mv (.t 25), none⟩,
  ⟨(some 27), .mv (.t 3), (some (26, false))⟩,
  ⟨(some 28), .bin .lss (.t 27) (.k (.I 0)), (some (26, false))⟩,
  ⟨(some 29), .pick (.t 26) (.k (.B true)) (.t 28), none⟩,
  ⟨(some 30), .mv (.t 29), none⟩,
  ⟨(some 31), .mv (.t 3), (some (30, false))⟩,
  ⟨(some 32), .mv (.t 0), (some (30, false))⟩,
  ⟨(some 33), .bin .geq (.t 31) (.t 32), (some (30, false))⟩,
  ⟨(some 34), .pick (.t 30) (.k (.B true)) (.t 33), none⟩,
  ⟨(some 18), .mv (.t 34), none⟩] false
abbrev c16_6 : AC := .reg [⟨(some 8), .mv (.k (.I 0)), none⟩,
  ⟨(some 9), .mv (.k (.B false)), none⟩,
  ⟨(some 10), .mv (.k (.I 2)), none⟩] false
abbrev c16_7 : AC := .seq c16_6 .ret
abbrev c16_8 : AC := .cond (.t 18) c16_7 .skip
abbrev c16_9 : AC := .seq c16_5 c16_8
abbrev c16_10 : AC := .cond (.t 13) c16_4 c16_9
abbrev c16_11 : AC := .seq c16_2 c16_10
abbrev c16_12 : AC := .block 0 c16_11
abbrev c16_13 : AC := .reg [⟨(some 36), .mv (.t 0), none⟩,
  ⟨(some 37), .mv (.t 1), none⟩,
  ⟨(some 38), .call 29 [(.t 36), (.t 37)], none⟩,
  ⟨(some 35), .mv (.t 38), none⟩,
  ⟨(some 39), .ext (.t 35) 0, none⟩,
  ⟨(some 40), .ext (.t 35) 1, none⟩,
  ⟨(some 11), .mv (.t 39), none⟩,
  ⟨(some 12), .mv (.t 40), none⟩] false
abbrev c16_14 : AC := .reg [⟨(some 41), .mv (.t 12), none⟩,
  ⟨(some 42), .not (.t 41), none⟩] false
abbrev c16_15 : AC := .reg [⟨(some 8), .mv (.k (.I 0)), none⟩,
  ⟨(some 9), .mv (.k (.B false)), none⟩,
  ⟨(some 10), .mv (.k (.I 10)), none⟩] false
abbrev c16_16 : AC := .seq c16_15 .ret
abbrev c16_17 : AC := .cond (.t 42) c16_16 .skip
abbrev c16_18 : AC := .seq c16_14 c16_17
abbrev c16_19 : AC := .regD [(⟨(some 43), .mv (.t 11), none⟩, [11]),
  (⟨(some 44), .mv (.t 2), none⟩, [2]),
  (⟨(some 45), .iad 1 (.t 43) (.t 44), none⟩, [43, 44]),
  (⟨(some 46), .ld none (.t 45), none⟩, [45]),
  (⟨(some 47), .mv (.t 3), none⟩, [3]),
  (⟨(some 48), .iad 2 (.t 46) (.t 47), none⟩, [46, 47]),
  (⟨(some 49), .fad 0 (.t 48), none⟩, [48]),
  (⟨(some 50), .ld none (.t 49), none⟩, [49]),
  (⟨(some 51), .mv (.t 11), none⟩, [11]),
  (⟨(some 52), .mv (.t 2), none⟩, [2]),
  (⟨(some 53), .iad 1 (.t 51) (.t 52), none⟩, [51, 52]),
  (⟨(some 54), .ld none (.t 53), none⟩, [53]),
  (⟨(some 55), .mv (.t 3), none⟩, [3]),
  (⟨(some 56), .iad 2 (.t 54) (.t 55), none⟩, [54, 55]),
  (⟨(some 57), .fad 1 (.t 56), none⟩, [56]),
  (⟨(some 58), .ld none (.t 57), none⟩, [57]),
  (⟨(some 8), .mv (.t 50), none⟩, [50]),
  (⟨(some 9), .mv (.t 58), none⟩, [58]),
  (⟨(some 10), .mv (.k (.I 0)), none⟩, [])]
abbrev c16_20 : AC := .seq c16_19 .ret
abbrev c16_21 : AC := .seq c16_18 c16_20
abbrev c16_22 : AC := .seq c16_13 c16_21
abbrev c16_23 : AC := .seq c16_12 c16_22
abbrev c16_24 : AC := .seq c16_1 c16_23
abbrev c16 : AC := c16_24
theorem code16 : fnCode Try.prog 16 = some (c16, [8, 9, 10], 59) := by kernel_rfl
theorem first_k {b : List Bd} : ∀ (d k0 s0 : Nat), k0 ≤ d → 2 ≤ k0 → s0 < b.length → cyc b s0 k0 ≠ none → ∃ k s, 2 ≤ k ∧ k ≤ k0 ∧ s < b.length ∧ cyc b s k ≠ none ∧ (∀ k' s', 2 ≤ k' → k' < k → s' < b.length → cyc b s' k' = none)
  | 0, k0, s0, h1, h2, _, _ => by omega
  | d + 1, k0, s0, h1, h2, h3, h4 => by
    by_cases h : ∃ k' s', 2 ≤ k' ∧ k' < k0 ∧ s' < b.length ∧ cyc b s' k' ≠ none
    · obtain ⟨k', s', a1, a2, a3, a4⟩ := h
      obtain ⟨k, s, c1, c2, c3, c4, c5⟩ := first_k d k' s' (by omega) a1 a3 a4
      exact ⟨k, s, c1, by omega, c3, c4, c5⟩
    · refine ⟨k0, s0, h2, Nat.le_refl _, h3, h4, fun k' s' a1 a2 a3 => ?_⟩
      refine Classical.byContradiction fun h5 => h ⟨k', s', a1, a2, a3, h5⟩
theorem first_s {b : List Bd} {k : Nat} : ∀ (s0 : Nat), s0 < b.length → cyc b s0 k ≠ none → ∃ s l, s < b.length ∧ cyc b s k = some l ∧ ∀ s', s' < s → cyc b s' k = none := by
  intro s0
  induction s0 using Nat.strongRecOn with
  | ind s0 ih =>
    intro h1 h2
    by_cases h : ∃ s', s' < s0 ∧ cyc b s' k ≠ none
    · obtain ⟨s', h3, h4⟩ := h
      exact ih s' h3 (by omega) h4
    · obtain ⟨l, hl⟩ := Option.ne_none_iff_exists'.1 h2
      exact ⟨s0, l, h1, hl, fun s' h3 => Classical.byContradiction fun h4 => h ⟨s', h3, h4⟩⟩
theorem first_cyc {n : Nat} {b : List Bd} (h : ∃ start k, start < b.length ∧ 2 ≤ k ∧ k ≤ n ∧ cyc b start k ≠ none) : ∃ k s l, 2 ≤ k ∧ k ≤ n ∧ s < b.length ∧ cyc b s k = some l ∧ (∀ k' s', 2 ≤ k' → k' < k → s' < b.length → cyc b s' k' = none) ∧ ∀ s', s' < s → cyc b s' k = none := by
  obtain ⟨s0, k0, h1, h2, h3, h4⟩ := h
  obtain ⟨k, s, a1, a2, a3, a4, a5⟩ := first_k k0 k0 s0 (Nat.le_refl _) h2 h1 h4
  obtain ⟨s, l, c1, c2, c3⟩ := first_s s a3 a4
  exact ⟨k, s, l, a1, by omega, c1, c2, a5, c3⟩
theorem x11y (n : Nat) (hn : 1 ≤ n ∧ n ≤ 16) (b : List Bd) (hl : b.length ≤ 80) (hb : Rgt n b) (hok : okL n (inO b) = true) : FnR Try.prog 11 [.I (n : Int), .c (Bds b)] [.c .nil, .c (.I 7)] := by
  have g9 := x9 n hn b (by omega) hb
  rw [decide_eq_true hl] at g9
  have g := x29 n hn b (by omega) hb
  unfold resL at g
  rw [hok, if_pos rfl] at g
  refine fn_walk code11 (by simp) ?_
  (repeat' (first | refine Sni.mk (fun hc => ?_) ?_ | refine Both.mk ?_ ?_ | ((first | refine aw ?_ | refine aD ?_ | refine aX ?_ | refine cT ?_ | refine cF ?_ | refine cR (g9 ..) ?_ | refine cG (g9 ..) ?_ | refine cR (g ..) ?_ | refine cG (g ..) ?_); try simp (disch := omega) only [go_sem, seval, reduceCtorEq]) | refine aI (fun hc => ?_) fun hc => ?_ | simp (disch := omega) only [go_sem, seval, reduceCtorEq] | refine aO ?_ | refine aC ?_ ?_ | refine aC' ?_ ?_ | refine aA ?_ ?_ | fail))
set_option maxHeartbeats 16000000 in
theorem x11n (n : Nat) (hn : 1 ≤ n ∧ n ≤ 16) (b : List Bd) (hl : b.length ≤ 80) (hb : Rgt n b) (hok : okL n (inO b) = false) (k s : Nat) (l : List Nat) (hk : 2 ≤ k ∧ k ≤ n) (hs : s < b.length) (hc : cyc b s k = some l) (hk' : ∀ k' s', 2 ≤ k' → k' < k → s' < b.length → cyc b s' k' = none) (hs' : ∀ s', s' < s → cyc b s' k = none) :
    FnR Try.prog 11 [.I (n : Int), .c (Bds b)] [.own 3 1 (l.map nc), .c (.I 0)] := by
  have g9 := x9 n hn b (by omega) hb
  rw [decide_eq_true hl] at g9
  have g := x29 n hn b (by omega) hb
  unfold resL at g
  rw [hok, if_neg (by decide)] at g
  have hlen := (cyc_ok hs (by omega) hc).1
  refine fn_walk code11 (by simp) ?_
  (repeat' (first | refine Sni.mk (fun hc => ?_) ?_ | refine Both.mk ?_ ?_ | ((first | refine aw ?_ | refine aD ?_ | refine aX ?_ | refine cT ?_ | refine cF ?_ | refine cR (g9 ..) ?_ | refine cG (g9 ..) ?_ | refine cR (g ..) ?_ | refine cG (g ..) ?_); try simp (disch := omega) only [go_sem, seval, reduceCtorEq]) | refine aI (fun hc => ?_) fun hc => ?_ | simp (disch := omega) only [go_sem, seval, reduceCtorEq] | refine aO ?_ | refine aC ?_ ?_ | refine aC' ?_ ?_ | refine aA ?_ ?_ | fail))
  refine AW_loopK [0, 1] [4, 5, 8, 9, 10, 22, 23, 24, 25, 26, 27, 28, 29, 30, 31, 32, 33, 34, 35, 36, 37, 38, 39, 40] (fun k1 : Nat => 2 ≤ k1 ∧ k1 ≤ k) (fun k1 => [(8, .I (k1 : Int))]) (fun _ => []) (fun k1 => k - k1) 2 (by omega) ?_ ?_
  · simp (disch := omega) only [go_sem, seval, reduceCtorEq]
  · intro k1 hk1
    have hkk : ((k1 : Int) ≤ (n : Int)) = True := eq_true (by omega)
    (repeat' (first | refine Sni.mk (fun hc => ?_) ?_ | refine Both.mk ?_ ?_ | ((first | refine aw ?_ | refine aD ?_ | refine aX ?_ | refine cT ?_ | refine cF ?_); try simp (disch := omega) only [go_sem, seval, reduceCtorEq, hkk, List.length_map]) | refine aI (fun hc => ?_) fun hc => ?_ | simp (disch := omega) only [go_sem, seval, reduceCtorEq, hkk, List.length_map] | refine aO ?_ | refine aA ?_ ?_ | fail))
    rcases Nat.lt_or_ge k1 k with hkl | hkl
    · refine AW_loopK [0, 1, 8, 28] [4, 5, 9, 10, 29, 30, 31, 32, 33, 34, 35, 36, 37, 38, 39, 40] (fun s1 : Nat => s1 ≤ b.length) (fun s1 => [(29, .I (s1 : Int))]) (fun _ => []) (fun s1 => b.length - s1) 0 (by omega) ?_ ?_
      · simp (disch := omega) only [go_sem, seval, reduceCtorEq, Int.natCast_zero]
      · intro s1 hs1
        rcases Nat.lt_or_ge s1 b.length with hsl | hsl
        · have hss : ((s1 : Int) < (b.length : Int)) = True := eq_true (by omega)
          have gc := x30n n hn b (by omega) hb s1 k1 hsl (by omega) (hk' k1 s1 (by omega) hkl hsl)
          (repeat' (first | refine Sni.mk (fun hc => ?_) ?_ | refine Both.mk ?_ ?_ | ((first | refine aw ?_ | refine aD ?_ | refine aX ?_ | refine cT ?_ | refine cF ?_ | refine cR (gc ..) ?_ | refine cG (gc ..) ?_); try simp (disch := omega) only [go_sem, seval, reduceCtorEq, hss]) | refine aI (fun hc => ?_) fun hc => ?_ | simp (disch := omega) only [go_sem, seval, reduceCtorEq, hss] | refine aO ?_ | refine aC ?_ ?_ | refine aC' ?_ ?_ | refine aA ?_ ?_ | fail))
          refine .mk (s1 + 1) (by omega) (by omega) ?_
          simp (disch := omega) only [go_sem, seval, reduceCtorEq, Int.natCast_add, Int.natCast_one]
        · obtain rfl : s1 = b.length := by omega
          have hss : ((b.length : Int) < (b.length : Int)) = False := eq_false (by omega)
          (repeat' (first | refine Sni.mk (fun hc => ?_) ?_ | refine Both.mk ?_ ?_ | ((first | refine aw ?_ | refine aD ?_ | refine aX ?_ | refine cT ?_ | refine cF ?_); try simp (disch := omega) only [go_sem, seval, reduceCtorEq, hss]) | refine aI (fun hc => ?_) fun hc => ?_ | simp (disch := omega) only [go_sem, seval, reduceCtorEq, hss] | refine aO ?_ | refine aA ?_ ?_ | fail))
          refine .mk (k1 + 1) (by omega) (by omega) ?_
          simp (disch := omega) only [go_sem, seval, reduceCtorEq, Int.natCast_add, Int.natCast_one]
    · obtain rfl : k1 = k := by omega
      refine AW_loopK [0, 1, 8, 28] [4, 5, 9, 10, 29, 30, 31, 32, 33, 34, 35, 36, 37, 38, 39, 40] (fun s1 : Nat => s1 ≤ s) (fun s1 => [(29, .I (s1 : Int))]) (fun _ => []) (fun s1 => b.length - s1) 0 (by omega) ?_ ?_
      · simp (disch := omega) only [go_sem, seval, reduceCtorEq, Int.natCast_zero]
      · intro s1 hs1
        have hss : ((s1 : Int) < (b.length : Int)) = True := eq_true (by omega)
        rcases Nat.lt_or_ge s1 s with hsl | hsl
        · have gc := x30n n hn b (by omega) hb s1 k1 (by omega) (by omega) (hs' s1 hsl)
          (repeat' (first | refine Sni.mk (fun hc => ?_) ?_ | refine Both.mk ?_ ?_ | ((first | refine aw ?_ | refine aD ?_ | refine aX ?_ | refine cT ?_ | refine cF ?_ | refine cR (gc ..) ?_ | refine cG (gc ..) ?_); try simp (disch := omega) only [go_sem, seval, reduceCtorEq, hss]) | refine aI (fun hc => ?_) fun hc => ?_ | simp (disch := omega) only [go_sem, seval, reduceCtorEq, hss] | refine aO ?_ | refine aC ?_ ?_ | refine aC' ?_ ?_ | refine aA ?_ ?_ | fail))
          refine .mk (s1 + 1) (by omega) (by omega) ?_
          simp (disch := omega) only [go_sem, seval, reduceCtorEq, Int.natCast_add, Int.natCast_one]
        · obtain rfl : s1 = s := by omega
          have gc := x30s n hn b (by omega) hb s1 k1 (by omega) (by omega) l hc
          cases l with
          | nil => simp at hlen; omega
          | cons e l =>
            rw [List.map_cons] at gc ⊢
            (repeat' (first | refine Sni.mk (fun hc => ?_) ?_ | refine Both.mk ?_ ?_ | ((first | refine aw ?_ | refine aD ?_ | refine aX ?_ | refine cT ?_ | refine cF ?_ | refine cR (gc ..) ?_ | refine cG (gc ..) ?_); try simp (disch := omega) only [go_sem, seval, reduceCtorEq, hss]) | refine aI (fun hc => ?_) fun hc => ?_ | simp (disch := omega) only [go_sem, seval, reduceCtorEq, hss] | refine aO ?_ | refine aC ?_ ?_ | refine aC' ?_ ?_ | refine aA ?_ ?_ | fail))
            all_goals (simp at hc)
set_option maxHeartbeats 8000000 in
theorem x16 (n : Nat) (hn : 1 ≤ n ∧ n ≤ 16) (b : List Bd) (hl : b.length ≤ 80) (hb : Rgt n b) (hok : okL n (inO b) = true) (i j : Nat) (hi : i < n) (hj : j < n) :
    FnR Try.prog 16 [.I (n : Int), .c (Bds b), .I (i : Int), .I (j : Int)] [.c (.I ((rndO n (inO b) n i j).getD 0)), .c (.B (rndO n (inO b) n i j).isSome), .c (.I 0)] := by
  have g9 := x9 n hn b (by omega) hb
  rw [decide_eq_true hl] at g9
  have g := x29 n hn b (by omega) hb
  unfold resL at g
  rw [hok, if_pos rfl] at g
  generalize rndO n (inO b) n = m at *
  have hTl := TO_len n m
  have hTg := TO_get (n := n) m hi
  have hrl := rowL_len n m i
  have hrg := rowL_get (n := n) m i hj
  have h1 : ((i : Int) < 0) = False := eq_false (by omega)
  have h2 : ((j : Int) < 0) = False := eq_false (by omega)
  have h3 : ((i : Int) ≥ (n : Int)) = False := eq_false (by omega)
  have h4 : ((j : Int) ≥ (n : Int)) = False := eq_false (by omega)
  have h5 : ((i : Int) < (n : Int)) = True := eq_true (by omega)
  have h6 : ((j : Int) < (n : Int)) = True := eq_true (by omega)
  refine fn_walk code16 (by simp) ?_
  (repeat' (first | refine Sni.mk (fun hc => ?_) ?_ | refine Both.mk ?_ ?_ | ((first | refine aw ?_ | refine aD ?_ | refine aX ?_ | refine cT ?_ | refine cF ?_ | refine cR (g9 ..) ?_ | refine cG (g9 ..) ?_ | refine cR (g ..) ?_ | refine cG (g ..) ?_); try simp (disch := omega) only [go_sem, seval, reduceCtorEq, h1, h2, h3, h4, h5, h6, hTl, hTg, hrl, hrg, Int.toNat_natCast]) | refine aI (fun hc => ?_) fun hc => ?_ | simp (disch := omega) only [go_sem, seval, reduceCtorEq, h1, h2, h3, h4, h5, h6, hTl, hTg, hrl, hrg, Int.toNat_natCast] | refine aO ?_ | refine aC ?_ ?_ | refine aC' ?_ ?_ | refine aA ?_ ?_ | fail))
  all_goals first | omega | skip
end Go.Proofs.Ytdmngdphgnnoiaa

open Go Go.AL
namespace Go.Proofs.Ytdmngdphgnnoiaa
set_option maxRecDepth 20000
theorem bnd_ty {c : Ch} {i : Nat} (hi : i < c.ty.length) : ∀ e ∈ tyB c i, e ∈ bnd c := fun e he => by
  unfold bnd bT
  refine List.mem_append_left _ (List.mem_append_left _ (List.mem_flatMap.2 ⟨i, List.mem_range.2 hi, he⟩))
theorem bnd_ho {c : Ch} {i : Nat} (hi : i < c.ho.length) : ∀ e ∈ hoB c i, e ∈ bnd c := fun e he => by
  unfold bnd bH
  exact List.mem_append_left _ (List.mem_append_right _ (List.mem_flatMap.2 ⟨i, List.mem_range.2 hi, List.mem_append_left _ he⟩))
theorem bnd_co {c : Ch} {i k : Nat} (hi : i < c.ho.length) (hk : k < (nth c.ho i).cs.length) : (⟨c.ty.length + 1 + i, (nth (nth c.ho i).cs k).1.toNat, 0⟩ : Bd) ∈ bnd c := by
  unfold bnd bH
  refine List.mem_append_left _ (List.mem_append_right _ (List.mem_flatMap.2 ⟨i, List.mem_range.2 hi, List.mem_append_right _ ?_⟩))
  unfold coB
  rw [List.take_of_length_le (Nat.le_refl _)]
  refine List.mem_map.2 ⟨nth (nth c.ho i).cs k, ?_, rfl⟩
  rw [nth_eq _ k hk]; exact List.getElem_mem hk
theorem bnd_ga {c : Ch} {i : Nat} (hi : i < c.ga.length) : gB (nth c.ga i) ∈ bnd c := by
  unfold bnd
  refine List.mem_append_right _ (List.mem_map.2 ⟨nth c.ga i, ?_, rfl⟩)
  rw [nth_eq _ i hi]; exact List.getElem_mem hi
theorem bnd_0 {c : Ch} {v : Nat} (h0 : 0 < v) (hv : v < nV c) : (∃ x, (⟨0, v, x⟩ : Bd) ∈ bnd c) ∧ ∃ x, (⟨v, 0, x⟩ : Bd) ∈ bnd c := by
  unfold nV at hv
  rcases Nat.lt_or_ge v (c.ty.length + 1) with h | h
  · obtain ⟨i, rfl⟩ : ∃ i, v = i + 1 := ⟨v - 1, by omega⟩
    exact ⟨⟨_, bnd_ty (i := i) (by omega) _ (by unfold tyB; exact List.mem_cons_self)⟩, ⟨_, bnd_ty (i := i) (by omega) _ (by unfold tyB; exact List.mem_cons_of_mem _ List.mem_cons_self)⟩⟩
  · obtain ⟨i, rfl⟩ : ∃ i, v = c.ty.length + 1 + i := ⟨v - (c.ty.length + 1), by omega⟩
    exact ⟨⟨_, bnd_ho (i := i) (by omega) _ (by unfold hoB; exact List.mem_cons_self)⟩, ⟨_, bnd_ho (i := i) (by omega) _ (by unfold hoB; exact List.mem_cons_of_mem _ List.mem_cons_self)⟩⟩
theorem inO_0 {c : Ch} (hv : vC c = true) {v : Nat} (h : v < nV c) : (∃ s, inO (bnd c) 0 v = some s) ∧ ∃ s, inO (bnd c) v 0 = some s := by
  have hd : ∀ e ∈ bnd c, e.i ≠ e.j := fun e he => (bnd_in hv e he).2.2.1
  rcases Nat.eq_zero_or_pos v with rfl | h0
  · exact ⟨⟨0, inO_diag hd 0⟩, ⟨0, inO_diag hd 0⟩⟩
  · obtain ⟨⟨x, hx⟩, y, hy⟩ := bnd_0 h0 h
    exact ⟨inO_some hx, inO_some hy⟩
theorem inM_abs {c : Ch} (hv : vC c = true) {a b : Nat} {s : Int} (h : inO (bnd c) a b = some s) : -20000 ≤ s ∧ s ≤ 20000 := by
  have := inO_all (P := fun o => ∀ s, o = some s → -20000 ≤ s ∧ s ≤ 20000) (fun s h => by cases h; omega) (fun s h => by cases h) (fun x y hx hy s hs => by
    rcases lessO_some hs with h | h
    · exact hx s h
    · exact hy s h) (bnd c) (fun e he s hs => by
    cases hs
    exact ⟨(bnd_in hv e he).2.2.2.1, (bnd_in hv e he).2.2.2.2⟩) a b
  exact this s h
theorem nV_pos (c : Ch) : 0 < nV c := by unfold nV; omega
theorem rel1 {c : Ch} (hv : vC c = true) : RelM (nV c) (rndO (nV c) (inO (bnd c)) 1) (rndF (nV c) (inM EE (bnd c)) 1) := fun a b ha hb => by
  have hd : ∀ e ∈ bnd c, e.i ≠ e.j := fun e he => (bnd_in hv e he).2.2.1
  have e1 : rndO (nV c) (inO (bnd c)) 1 = roundO (nV c) (inO (bnd c)) 0 := rfl
  have e2 : rndF (nV c) (inM EE (bnd c)) 1 = roundF (nV c) (inM EE (bnd c)) 0 := rfl
  rw [e1, e2, roundO_eq (inO_diag hd 0) ha hb, roundF_eq (inM_diag hd 0) ha hb]
  have hr := in_rel (E := EE) (b := bnd c) fun e he => by have := (bnd_in hv e he).2.2.2.2; unfold EE; omega
  obtain ⟨x, hx⟩ := (inO_0 hv ha).2
  obtain ⟨y, hy⟩ := (inO_0 hv hb).1
  have hxa := inM_abs hv hx
  have hya := inM_abs hv hy
  have hmx : inM EE (bnd c) a 0 = x := by
    rcases hr a 0 with h | h
    · rw [hx] at h; cases h; rfl
    · rw [hx] at h; cases h.1
  have hmy : inM EE (bnd c) 0 b = y := by
    rcases hr 0 b with h | h
    · rw [hy] at h; cases h; rfl
    · rw [hy] at h; cases h.1
  rw [hx, hy, hmx, hmy]
  have hp : plusO (some x) (some y) = some (x + y) := rfl
  rw [hp]
  rcases hr a b with h | ⟨h, h'⟩
  · rw [h]
    show (if x + y < inM EE (bnd c) a b then some (x + y) else some (inM EE (bnd c) a b)) = _
    split
    · congr 1; omega
    · congr 1; omega
  · rw [h, h']
    show some (x + y) = some (min EE (x + y))
    have : min EE (x + y) = x + y := by unfold EE; omega
    rw [this]
theorem relK {c : Ch} (hv : vC c = true) : ∀ K, K + 1 ≤ nV c → RelM (nV c) (rndO (nV c) (inO (bnd c)) (K + 1)) (rndF (nV c) (inM EE (bnd c)) (K + 1))
  | 0, _ => rel1 hv
  | K + 1, h => by
    rw [rndO_succ, rndF_succ]
    exact roundO_rel (by omega) (relK hv K (by omega))
theorem ok_eq {c : Ch} (hv : vC c = true) : okL (nV c) (inO (bnd c)) = okD c := by
  have hn := nV_pos c
  have hR : ∀ k i, k < nV c → i < nV c → (rndO (nV c) (inO (bnd c)) (k + 1) i i).getD 0 = rndF (nV c) (inM EE (bnd c)) (k + 1) i i := fun k i hk hi => by rw [relK hv k hk i i hi hi]; rfl
  cases ho : okD c with
  | true =>
    refine all_yes fun k hk => all_yes fun i hi => decide_eq_true ?_
    rw [hR k i hk hi]
    have h1 := of_decide_eq_true (all_get ho hi)
    have h2 := rndF_le (nV c) (inM EE (bnd c)) (k + 1) (nV c - (k + 1)) i i
    rw [show k + 1 + (nV c - (k + 1)) = nV c by omega] at h2
    unfold dM at h1
    omega
  | false =>
    refine Bool.eq_false_iff.2 fun h => ?_
    have : okD c = true := all_yes fun i hi => decide_eq_true (by
      have h1 := of_decide_eq_true (all_get (all_get h (i := nV c - 1) (by omega)) hi)
      rw [hR _ i (by omega) hi, show nV c - 1 + 1 = nV c by omega] at h1
      exact h1)
    rw [this] at ho; cases ho
theorem rnd_eq {c : Ch} (hv : vC c = true) {a b : Nat} (ha : a < nV c) (hb : b < nV c) : rndO (nV c) (inO (bnd c)) (nV c) a b = some (dM c a b) := by
  have hn := nV_pos c
  have := relK hv (nV c - 1) (by omega) a b ha hb
  rw [show nV c - 1 + 1 = nV c by omega] at this
  exact this
theorem dM_le {c : Ch} : ∀ e ∈ bnd c, dM c e.i e.j ≤ e.c := fun e he => by
  have h1 := rndF_le (nV c) (inM EE (bnd c)) 0 (nV c) e.i e.j
  rw [Nat.zero_add] at h1
  exact Int.le_trans h1 (inM_le he)
theorem dM_closed {c : Ch} (hv : vC c = true) (ho : okD c = true) {i j q : Nat} (hi : i < nV c) (hj : j < nV c) (hq : q < nV c) : dM c i j ≤ dM c i q + dM c q j :=
  fw_closed (fun i _ => inM_diag (fun e he => (bnd_in hv e he).2.2.1) i) (fun i hi => of_decide_eq_true (all_get ho hi)) (nV c) (Nat.le_refl _) i j q hi hj hq
theorem dM_0 {c : Ch} (hv : vC c = true) (ho : okD c = true) : dM c 0 0 = 0 :=
  rndF_diag (fun i _ => inM_diag (fun e he => (bnd_in hv e he).2.2.1) i) (fun i hi => of_decide_eq_true (all_get ho hi)) (Nat.le_refl _) (nV_pos c)
theorem nth_map_range {k i : Nat} {f : Nat → Int} (h : i < k) : nth ((List.range k).map f) i = f i := by
  rw [nth_eq _ i (by simpa using h)]; simp
theorem sol_IsD {c : Ch} (hv : vC c = true) (x : Nat → Int) (h0 : x 0 = 0) (h : ∀ e ∈ bnd c, x e.j ≤ x e.i + e.c) : IsD c ((List.range c.ty.length).map fun i => x (i + 1)) ((List.range c.ho.length).map fun i => x (c.ty.length + 1 + i)) := by
  have hnt : ∀ i, 1 ≤ i → i ≤ c.ty.length → nth ((List.range c.ty.length).map fun i => x (i + 1)) (i - 1) = x i := fun i h1 h2 => by
    rw [nth_map_range (by omega), show i - 1 + 1 = i by omega]
  refine ⟨by simp, by simp, fun i hi => ?_, fun i hi => ?_, fun i hi => ?_⟩
  · rw [nth_map_range hi]
    have h1 := h _ (bnd_ty hi ⟨0, i + 1, (nth c.ty i).2⟩ (by unfold tyB; exact List.mem_cons_self))
    have h2 := h _ (bnd_ty hi ⟨i + 1, 0, -(nth c.ty i).1⟩ (by unfold tyB; exact List.mem_cons_of_mem _ List.mem_cons_self))
    dsimp only at h1 h2
    omega
  · rw [nth_map_range hi]
    have h1 := h _ (bnd_ho hi ⟨0, c.ty.length + 1 + i, (nth c.ho i).cl.2⟩ (by unfold hoB; exact List.mem_cons_self))
    have h2 := h _ (bnd_ho hi ⟨c.ty.length + 1 + i, 0, -(nth c.ho i).cl.1⟩ (by unfold hoB; exact List.mem_cons_of_mem _ List.mem_cons_self))
    dsimp only at h1 h2
    refine ⟨by omega, by omega, fun k hk => ?_⟩
    have h3 := h _ (bnd_co hi hk)
    have h4 := vC_key hv hi hk
    dsimp only at h3
    rw [hnt _ (by omega) (by omega)]
    omega
  · have h3 := h _ (bnd_ga hi)
    have h4 := vC_ga hv hi
    unfold gB at h3
    dsimp only at h3
    rw [hnt _ (by omega) (by omega), hnt _ (by omega) (by omega)]
    omega
theorem tyD_map {c : Ch} (b : Bool) : (tyD c).map (pkY b) = (List.range c.ty.length).map fun i => pkY b (-(dM c (i + 1) 0), dM c 0 (i + 1)) := by
  unfold tyD dtL
  rw [← List.map_take, List.map_map, List.take_range]
  have : min c.ty.length (nV c - 1) = c.ty.length := by unfold nV; omega
  rw [this]; rfl
theorem hoD_map {c : Ch} (b : Bool) : (hoD c).map (pkY b) = (List.range c.ho.length).map fun i => pkY b (-(dM c (c.ty.length + 1 + i) 0), dM c 0 (c.ty.length + 1 + i)) := by
  unfold hoD dtL
  apply List.ext_getElem
  · simp [nV]
  · intro i h1 h2
    simp only [List.getElem_map, List.getElem_drop, List.getElem_range]
    have : c.ty.length + i + 1 = c.ty.length + 1 + i := by omega
    rw [this]
theorem IsD_first {c : Ch} (hv : vC c = true) (ho : okD c = true) : IsD c ((tyD c).map (pkY false)) ((hoD c).map (pkY false)) := by
  rw [tyD_map, hoD_map]
  refine sol_IsD hv (fun v => pkY false (-(dM c v 0), dM c 0 v)) ?_ fun e he => ?_
  · show -(dM c 0 0) = 0
    rw [dM_0 hv ho]
    rfl
  · show -(dM c e.j 0) ≤ -(dM c e.i 0) + e.c
    obtain ⟨h1, h2, -⟩ := bnd_in hv e he
    have h3 := dM_closed hv ho (i := e.i) (j := 0) (q := e.j) h1 (nV_pos c) h2
    have h4 := dM_le e he
    omega
theorem IsD_last {c : Ch} (hv : vC c = true) (ho : okD c = true) : IsD c ((tyD c).map (pkY true)) ((hoD c).map (pkY true)) := by
  rw [tyD_map, hoD_map]
  refine sol_IsD hv (fun v => pkY true (-(dM c v 0), dM c 0 v)) ?_ fun e he => ?_
  · show dM c 0 0 = 0
    exact dM_0 hv ho
  · show dM c 0 e.j ≤ dM c 0 e.i + e.c
    obtain ⟨h1, h2, -⟩ := bnd_in hv e he
    have h3 := dM_closed hv ho (i := 0) (j := e.j) (q := e.i) (nV_pos c) h2 h1
    have h4 := dM_le e he
    omega
theorem bnd_Rgt {c : Ch} (hv : vC c = true) : Rgt (nV c) (bnd c) := fun k hk => by
  have hm : nth (bnd c) k ∈ bnd c := by rw [nth_eq _ k hk]; exact List.getElem_mem hk
  obtain ⟨h1, h2, h3, h4, h5⟩ := bnd_in hv _ hm
  exact ⟨h1, h2, h3, by omega, by omega⟩
theorem nV_le {c : Ch} (hv : vC c = true) : 1 ≤ nV c ∧ nV c ≤ 16 := by
  have := vC_len hv
  unfold nV; omega
theorem neg_cyc {c : Ch} (hv : vC c = true) (ho : okD c = false) : ∃ k s l, 2 ≤ k ∧ k ≤ nV c ∧ s < (bnd c).length ∧ cyc (bnd c) s k = some l ∧ (∀ k' s', 2 ≤ k' → k' < k → s' < (bnd c).length → cyc (bnd c) s' k' = none) ∧ ∀ s', s' < s → cyc (bnd c) s' k = none := by
  have hR := bnd_Rgt hv
  rw [← ok_eq hv] at ho
  have h1 : ∃ k i, k < nV c ∧ i < nV c ∧ (rndO (nV c) (inO (bnd c)) (k + 1) i i).getD 0 < 0 := by
    refine Classical.byContradiction fun hno => ?_
    have : okL (nV c) (inO (bnd c)) = true := all_yes fun k hk => all_yes fun i hi => decide_eq_true (Int.not_lt.1 fun h => hno ⟨k, i, hk, hi, h⟩)
    rw [this] at ho; cases ho
  obtain ⟨k, i, hk, hi, h⟩ := h1
  cases hs : rndO (nV c) (inO (bnd c)) (k + 1) i i with
  | none => rw [hs] at h; simp at h
  | some s =>
    rw [hs] at h
    obtain ⟨ws, h2, h3⟩ := rndO_snd (inO_snd (bnd c)) (k + 1) i i s hs
    exact first_cyc (cyc_ex (fun e he => ⟨(hR e he).1, (hR e he).2.1, (hR e he).2.2.1⟩) h2 (by rw [h3]; exact h))
end Go.Proofs.Ytdmngdphgnnoiaa

