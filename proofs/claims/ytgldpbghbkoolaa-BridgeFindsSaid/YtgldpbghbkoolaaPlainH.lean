/-
  Lemmas for the proof: no statement of its own.
-/
import Derived.Test.YtgldpbghbkoolaaPlainF
import Derived.KernelRfl
set_option linter.unusedVariables false
set_option linter.unusedSimpArgs false
-- P p_15.txt
open Go Go.AL Go.RowKit
namespace Go.Proofs.Ytgldpbghbkoolaa
set_option maxRecDepth 20000
/- coinage/coinageref15.parts -/
abbrev c51_1 : AC := .reg [⟨(some 2), .mv (.k (.I 0)), none⟩] false
abbrev c51_2 : AC := .reg [⟨(some 3), .mv (.k (.I 0)), none⟩] false
abbrev c51_3 : AC := .reg [⟨(some 4), .mv (.k (.I 0)), none⟩] false
abbrev c51_4 : AC := .reg [⟨(some 5), .mv (.t 4), none⟩,
  ⟨(some 6), .mv (.t 0), none⟩,
  ⟨(some 7), .len (.t 6), none⟩,
  ⟨(some 8), .bin .lss (.t 5) (.t 7), none⟩] false
abbrev c51_5 : AC := .cond (.t 8) .skip (.exit 0)
abbrev c51_6 : AC := .seq c51_4 c51_5
abbrev c51_7 : AC := .regX (.first ⟨(some 11), .mv (.t 0), none⟩
  (.first ⟨(some 12), .mv (.t 4), none⟩
  (.first ⟨(some 14), .mv (.t 0), none⟩
  (.first ⟨(some 15), .mv (.t 4), none⟩
  (.first ⟨(some 16), .iad 1 (.t 14) (.t 15), none⟩
  (.fork ⟨(some 13), .slc 1 (.t 11) none (some (.t 12)), none⟩
  (.fork ⟨(some 17), .ld none (.t 16), none⟩
  (.fork ⟨(some 18), .call 21 [(.t 13), (.t 17)], none⟩
  (.first ⟨(some 19), .not (.t 18), none⟩
  .done)
  .nope)
  .nope)
  (.fork ⟨(some 17), .ld none (.t 16), none⟩
  (.fork ⟨(some 13), .slc 1 (.t 11) none (some (.t 12)), none⟩
  (.fork ⟨(some 18), .call 21 [(.t 13), (.t 17)], none⟩
  (.first ⟨(some 19), .not (.t 18), none⟩
  .done)
  .nope)
  .nope)
  .nope)))))))
abbrev c51_8 : AC := .reg [⟨(some 20), .mv (.t 3), none⟩,
  ⟨(some 21), .bin .add (.t 20) (.k (.I 1)), none⟩,
  ⟨(some 3), .mv (.t 21), none⟩] false
abbrev c51_9 : AC := .cond (.t 19) c51_8 .skip
abbrev c51_10 : AC := .seq c51_7 c51_9
abbrev c51_11 : AC := .block 1 c51_10
abbrev c51_12 : AC := .reg [⟨(some 9), .mv (.t 4), none⟩,
  ⟨(some 10), .bin .add (.t 9) (.k (.I 1)), none⟩,
  ⟨(some 4), .mv (.t 10), none⟩] false
abbrev c51_13 : AC := .seq c51_11 c51_12
abbrev c51_14 : AC := .seq c51_6 c51_13
abbrev c51_15 : AC := .loop c51_14
abbrev c51_16 : AC := .block 0 c51_15
abbrev c51_17 : AC := .seq c51_3 c51_16
abbrev c51_18 : AC := .reg [⟨(some 22), .mv (.t 3), none⟩,
  ⟨(some 2), .mv (.t 22), none⟩] false
abbrev c51_19 : AC := .seq c51_18 .ret
abbrev c51_20 : AC := .seq c51_17 c51_19
abbrev c51_21 : AC := .seq c51_2 c51_20
abbrev c51_22 : AC := .seq c51_1 c51_21
abbrev c51 : AC := c51_22
theorem code51 : fnCode Try.prog 51 = some (c51, [2], 23) := by kernel_rfl
/- coinage/coinageref15.labels -/
abbrev c52_1 : AC := .reg [⟨(some 6), .mv (.k (.c .nil)), none⟩] false
abbrev c52_2 : AC := .reg [⟨(some 13), .mv (.t 0), none⟩,
  ⟨(some 14), .len (.t 13), none⟩,
  ⟨(some 15), .mks 3 1 8 [(.sc (.int .i64 0))] (.t 14) (.t 14), none⟩,
  ⟨(some 7), .mv (.t 15), none⟩] false
abbrev c52_3 : AC := .reg [⟨(some 8), .mv (.k (.I 0)), none⟩] false
abbrev c52_4 : AC := .reg [⟨(some 16), .mv (.t 8), none⟩,
  ⟨(some 17), .mv (.t 0), none⟩,
  ⟨(some 18), .len (.t 17), none⟩,
  ⟨(some 19), .bin .lss (.t 16) (.t 18), none⟩] false
abbrev c52_5 : AC := .cond (.t 19) .skip (.exit 0)
abbrev c52_6 : AC := .seq c52_4 c52_5
abbrev c52_7 : AC := .reg [⟨(some 22), .mv (.t 7), none⟩,
  ⟨(some 23), .mv (.t 8), none⟩,
  ⟨(some 24), .mv (.t 8), none⟩,
  ⟨(some 25), .iad 1 (.t 22) (.t 23), none⟩,
  ⟨none, .st none (.t 25) (.t 24), none⟩] false
abbrev c52_8 : AC := .block 1 c52_7
abbrev c52_9 : AC := .reg [⟨(some 20), .mv (.t 8), none⟩,
  ⟨(some 21), .bin .add (.t 20) (.k (.I 1)), none⟩,
  ⟨(some 8), .mv (.t 21), none⟩] false
abbrev c52_10 : AC := .seq c52_8 c52_9
abbrev c52_11 : AC := .seq c52_6 c52_10
abbrev c52_12 : AC := .loop c52_11
abbrev c52_13 : AC := .block 0 c52_12
abbrev c52_14 : AC := .seq c52_3 c52_13
abbrev c52_15 : AC := .reg [⟨(some 9), .mv (.k (.B true)), none⟩] false
abbrev c52_16 : AC := .reg [⟨(some 26), .mv (.t 9), none⟩] false
abbrev c52_17 : AC := .cond (.t 26) .skip (.exit 2)
abbrev c52_18 : AC := .seq c52_16 c52_17
abbrev c52_19 : AC := .reg [⟨(some 9), .mv (.k (.B false)), none⟩] false
abbrev c52_20 : AC := .reg [⟨(some 10), .mv (.k (.I 0)), none⟩] false
abbrev c52_21 : AC := .reg [⟨(some 27), .mv (.t 10), none⟩,
  ⟨(some 28), .mv (.t 1), none⟩,
  ⟨(some 29), .len (.t 28), none⟩,
  ⟨(some 30), .bin .lss (.t 27) (.t 29), none⟩] false
abbrev c52_22 : AC := .cond (.t 30) .skip (.exit 4)
abbrev c52_23 : AC := .seq c52_21 c52_22
abbrev c52_24 : AC := .reg [⟨(some 33), .mv (.t 2), none⟩,
  ⟨(some 34), .mv (.t 1), none⟩,
  ⟨(some 35), .mv (.t 10), none⟩,
  ⟨(some 36), .iad 3 (.t 34) (.t 35), none⟩,
  ⟨(some 37), .fad 0 (.t 36), none⟩,
  ⟨(some 38), .ld none (.t 37), none⟩,
  ⟨(some 39), .call 21 [(.t 33), (.t 38)], none⟩] false
abbrev c52_25 : AC := .cond (.t 39) (.exit 5) .skip
abbrev c52_26 : AC := .seq c52_24 c52_25
abbrev c52_27 : AC := .reg [⟨(some 40), .mv (.t 0), none⟩,
  ⟨(some 41), .mv (.t 1), none⟩,
  ⟨(some 42), .mv (.t 10), none⟩,
  ⟨(some 43), .iad 3 (.t 41) (.t 42), none⟩,
  ⟨(some 44), .fad 1 (.t 43), none⟩,
  ⟨(some 45), .ld none (.t 44), none⟩,
  ⟨(some 46), .build [(.I 0), (.I 0)] [(0, 1, (.k (.I 0))), (1, 1, (.t 45))], none⟩,
  ⟨(some 47), .call 37 [(.t 40), (.t 46)], none⟩,
  ⟨(some 11), .mv (.t 47), none⟩] false
abbrev c52_28 : AC := .reg [⟨(some 48), .mv (.t 0), none⟩,
  ⟨(some 49), .mv (.t 1), none⟩,
  ⟨(some 50), .mv (.t 10), none⟩,
  ⟨(some 51), .iad 3 (.t 49) (.t 50), none⟩,
  ⟨(some 52), .fad 2 (.t 51), none⟩,
  ⟨(some 53), .ld none (.t 52), none⟩,
  ⟨(some 54), .build [(.I 0), (.I 0)] [(0, 1, (.k (.I 1))), (1, 1, (.t 53))], none⟩,
  ⟨(some 55), .call 37 [(.t 48), (.t 54)], none⟩,
  ⟨(some 12), .mv (.t 55), none⟩] false
abbrev c52_29 : AC := .regD [(⟨(some 56), .mv (.t 7), none⟩, [7]),
  (⟨(some 57), .mv (.t 11), none⟩, [11]),
  (⟨(some 58), .iad 1 (.t 56) (.t 57), none⟩, [56, 57]),
  (⟨(some 59), .ld none (.t 58), none⟩, [58]),
  (⟨(some 60), .mv (.t 7), none⟩, [7]),
  (⟨(some 61), .mv (.t 12), none⟩, [12]),
  (⟨(some 62), .iad 1 (.t 60) (.t 61), none⟩, [60, 61]),
  (⟨(some 63), .ld none (.t 62), none⟩, [62]),
  (⟨(some 64), .bin .neq (.t 59) (.t 63), none⟩, [59, 63])]
abbrev c52_30 : AC := .regX (.first ⟨(some 65), .mv (.t 7), none⟩
  (.first ⟨(some 66), .mv (.t 11), none⟩
  (.first ⟨(some 67), .mv (.t 7), none⟩
  (.first ⟨(some 68), .mv (.t 11), none⟩
  (.first ⟨(some 69), .iad 1 (.t 67) (.t 68), none⟩
  (.first ⟨(some 71), .mv (.t 7), none⟩
  (.first ⟨(some 72), .mv (.t 12), none⟩
  (.first ⟨(some 73), .iad 1 (.t 71) (.t 72), none⟩
  (.fork ⟨(some 70), .ld none (.t 69), none⟩
  (.fork ⟨(some 74), .ld none (.t 73), none⟩
  (.first ⟨(some 75), .minmax false (.t 70) (.t 74), none⟩
  (.first ⟨(some 76), .iad 1 (.t 65) (.t 66), none⟩
  (.fork ⟨none, .st none (.t 76) (.t 75), none⟩
  .done
  .nope)))
  .nope)
  (.fork ⟨(some 74), .ld none (.t 73), none⟩
  (.fork ⟨(some 70), .ld none (.t 69), none⟩
  (.first ⟨(some 75), .minmax false (.t 70) (.t 74), none⟩
  (.first ⟨(some 76), .iad 1 (.t 65) (.t 66), none⟩
  (.fork ⟨none, .st none (.t 76) (.t 75), none⟩
  .done
  .nope)))
  .nope)
  .nope))))))))))
abbrev c52_31 : AC := .reg [⟨(some 77), .mv (.t 7), none⟩,
  ⟨(some 78), .mv (.t 12), none⟩,
  ⟨(some 79), .mv (.t 7), none⟩,
  ⟨(some 80), .mv (.t 11), none⟩,
  ⟨(some 81), .iad 1 (.t 79) (.t 80), none⟩,
  ⟨(some 82), .ld none (.t 81), none⟩,
  ⟨(some 83), .iad 1 (.t 77) (.t 78), none⟩,
  ⟨none, .st none (.t 83) (.t 82), none⟩] false
abbrev c52_32 : AC := .reg [⟨(some 9), .mv (.k (.B true)), none⟩] false
abbrev c52_33 : AC := .seq c52_31 c52_32
abbrev c52_34 : AC := .seq c52_30 c52_33
abbrev c52_35 : AC := .cond (.t 64) c52_34 .skip
abbrev c52_36 : AC := .seq c52_29 c52_35
abbrev c52_37 : AC := .seq c52_28 c52_36
abbrev c52_38 : AC := .seq c52_27 c52_37
abbrev c52_39 : AC := .seq c52_26 c52_38
abbrev c52_40 : AC := .block 5 c52_39
abbrev c52_41 : AC := .reg [⟨(some 31), .mv (.t 10), none⟩,
  ⟨(some 32), .bin .add (.t 31) (.k (.I 1)), none⟩,
  ⟨(some 10), .mv (.t 32), none⟩] false
abbrev c52_42 : AC := .seq c52_40 c52_41
abbrev c52_43 : AC := .seq c52_23 c52_42
abbrev c52_44 : AC := .loop c52_43
abbrev c52_45 : AC := .block 4 c52_44
abbrev c52_46 : AC := .seq c52_20 c52_45
abbrev c52_47 : AC := .seq c52_19 c52_46
abbrev c52_48 : AC := .block 3 c52_47
abbrev c52_49 : AC := .seq c52_18 c52_48
abbrev c52_50 : AC := .loop c52_49
abbrev c52_51 : AC := .block 2 c52_50
abbrev c52_52 : AC := .seq c52_15 c52_51
abbrev c52_53 : AC := .reg [⟨(some 84), .mv (.t 7), none⟩,
  ⟨(some 6), .mv (.t 84), none⟩] false
abbrev c52_54 : AC := .seq c52_53 .ret
abbrev c52_55 : AC := .seq c52_52 c52_54
abbrev c52_56 : AC := .seq c52_14 c52_55
abbrev c52_57 : AC := .seq c52_2 c52_56
abbrev c52_58 : AC := .seq c52_1 c52_57
abbrev c52 : AC := c52_58
theorem code52 : fnCode Try.prog 52 = some (c52, [6], 85) := by kernel_rfl

/-! ### the reference's labels -/
structure Lb where
  (nm : List Nat) (ch : Bool)
def lbK (es : Es) (gone : List Bool) (s : Lb) (k : Nat) : Lb :=
  if nth gone k = true ∨ nth s.nm (nth es k).1 = nth s.nm (nth es k).2 then s
  else ⟨(s.nm.set (nth es k).1 (min (nth s.nm (nth es k).1) (nth s.nm (nth es k).2))).set (nth es k).2 (min (nth s.nm (nth es k).1) (nth s.nm (nth es k).2)), true⟩
def lbR (es : Es) (gone : List Bool) (nm : List Nat) : Nat → Lb
  | 0 => ⟨nm, false⟩
  | k + 1 => lbK es gone (lbR es gone nm k) k
def labN (es : Es) (gone : List Bool) : Nat → List Nat → List Nat
  | 0, nm => nm
  | f + 1, nm => if (lbR es gone nm es.length).ch then labN es gone f (lbR es gone nm es.length).nm else (lbR es gone nm es.length).nm
def labF (es : Es) (gone : List Bool) (n : Nat) : List Nat := labN es gone ((List.range n).sum + 1) (List.range n)
theorem sum_set : ∀ (l : List Nat) (i v : Nat), i < l.length → (l.set i v).sum + nth l i = l.sum + v
  | [], i, v, h => by simp at h
  | a :: l, 0, v, h => by simp [nth]; omega
  | a :: l, i + 1, v, h => by
    have := sum_set l i v (by simpa using h)
    have e : nth (a :: l) (i + 1) = nth l i := by simp [nth]
    rw [List.set_cons_succ, List.sum_cons, List.sum_cons, e]
    omega
theorem lbK_len (es : Es) (gone : List Bool) (s : Lb) (k : Nat) : (lbK es gone s k).nm.length = s.nm.length := by
  unfold lbK; split <;> simp
theorem lbR_len (es : Es) (gone : List Bool) (nm : List Nat) : ∀ k, (lbR es gone nm k).nm.length = nm.length
  | 0 => rfl
  | k + 1 => by simp only [lbR]; rw [lbK_len, lbR_len es gone nm k]
theorem min_lt {a b : Nat} (h : a ≠ b) : 2 * min a b < a + b ∧ min a b ≤ a ∧ min a b ≤ b := by omega
theorem lbR_sum {es : Es} {gone : List Bool} {nm : List Nat} (he : EsLt es nm.length) (hne : ∀ k, k < es.length → (nth es k).1 ≠ (nth es k).2) : ∀ k, k ≤ es.length → ((lbR es gone nm k).ch = false → (lbR es gone nm k).nm = nm) ∧ ((lbR es gone nm k).ch = true → (lbR es gone nm k).nm.sum < nm.sum) ∧ (lbR es gone nm k).nm.sum ≤ nm.sum
  | 0, _ => ⟨fun _ => rfl, (fun h => by cases h), Nat.le_refl _⟩
  | k + 1, hk => by
    obtain ⟨a, b, c⟩ := lbR_sum he hne k (by omega)
    have hl := lbR_len es gone nm k
    obtain ⟨x1, x2⟩ := he k (by omega)
    have hne' := hne k (by omega)
    simp only [lbR]
    generalize lbR es gone nm k = s at *
    unfold lbK
    split
    · exact ⟨a, b, c⟩
    · rename_i hc
      simp only [not_or] at hc
      have hm := min_lt hc.2
      have s1 := sum_set s.nm (nth es k).1 (min (nth s.nm (nth es k).1) (nth s.nm (nth es k).2)) (by omega)
      have s2 := sum_set (s.nm.set (nth es k).1 (min (nth s.nm (nth es k).1) (nth s.nm (nth es k).2))) (nth es k).2 (min (nth s.nm (nth es k).1) (nth s.nm (nth es k).2)) (by simp; omega)
      rw [nth_setN _ _ _ _ (by omega), if_neg (fun h => hne' h.symm)] at s2
      refine ⟨(fun h => by cases h), fun _ => ?_, ?_⟩ <;> simp only [] <;> omega
/-- the labels lead to dies that are joined -/
def LbI (l : List Die) (G : List Lk) (nm : List Nat) : Prop := nm.length = l.length ∧ ∀ i, i < l.length → nth nm i < l.length ∧ Jn G (nth l i) (nth l (nth nm i))
section
variable {l : List Die} {ls : List Lk} {out : List Int} (hen : Ends l ls)
include hen
theorem LbI.k {s : Lb} {k : Nat} (hk : k < ls.length) (h : LbI l (notIn out ls) s.nm) : LbI l (notIn out ls) (lbK (esD l ls) (goneL ls out) s k).nm := by
  have hm := hen _ (nth_mem'' ls k hk)
  obtain ⟨h1, h2⟩ := h
  have heq := jn_eqv (notIn out ls)
  unfold lbK
  rw [esD_nth _ _ _ hk, goneL_nth _ _ _ hk]
  simp only []
  split
  · exact ⟨h1, h2⟩
  · rename_i hc
    simp only [not_or, decide_eq_true_eq] at hc
    have hin : nth ls k ∈ notIn out ls := notIn_mem.2 ⟨nth_mem'' ls k hk, hc.1⟩
    have hor := jn_lk hin
    obtain ⟨po, eo⟩ := plN_mem hm.1
    obtain ⟨pr, er⟩ := plN_mem hm.2
    obtain ⟨o1, o2⟩ := h2 _ po
    obtain ⟨r1, r2⟩ := h2 _ pr
    rw [eo] at o2
    rw [er] at r2
    have hmin : min (nth s.nm (plN l (nth ls k).o)) (nth s.nm (plN l (nth ls k).r)) < l.length ∧ Jn (notIn out ls) (nth ls k).o (nth l (min (nth s.nm (plN l (nth ls k).o)) (nth s.nm (plN l (nth ls k).r)))) := by
      rcases Nat.le_total (nth s.nm (plN l (nth ls k).o)) (nth s.nm (plN l (nth ls k).r)) with h | h
      · rw [Nat.min_eq_left h]; exact ⟨o1, o2⟩
      · rw [Nat.min_eq_right h]; exact ⟨r1, heq.trans hor r2⟩
    generalize min (nth s.nm (plN l (nth ls k).o)) (nth s.nm (plN l (nth ls k).r)) = m at *
    refine ⟨by simp [h1], fun i hi => ?_⟩
    simp only []
    rw [nth_setN _ _ _ _ (by simp; omega), nth_setN _ _ _ _ (by omega)]
    by_cases e1 : i = plN l (nth ls k).r
    · rw [if_pos e1, e1, er]
      exact ⟨hmin.1, heq.trans (heq.symm hor) hmin.2⟩
    · rw [if_neg e1]
      by_cases e2 : i = plN l (nth ls k).o
      · rw [if_pos e2, e2, eo]; exact hmin
      · rw [if_neg e2]; exact h2 i hi
theorem LbI.r {nm : List Nat} (h : LbI l (notIn out ls) nm) : ∀ k, k ≤ ls.length → LbI l (notIn out ls) (lbR (esD l ls) (goneL ls out) nm k).nm
  | 0, _ => h
  | k + 1, hk => LbI.k hen (by omega) (LbI.r h k (by omega))
theorem esD_ne : ∀ k, k < (esD l ls).length → (nth (esD l ls) k).1 ≠ (nth (esD l ls) k).2 := fun k hk => by
  rw [esD_len] at hk
  have hm := hen _ (nth_mem'' ls k hk)
  rw [esD_nth _ _ _ hk]
  exact fun e => or_ne _ _ ((plc_ne hm.1 hm.2).1 e)
theorem lab_end : ∀ f nm, nm.sum < f → LbI l (notIn out ls) nm → LbI l (notIn out ls) (labN (esD l ls) (goneL ls out) f nm) ∧ ∀ k, k < ls.length → (nth ls k).id ∉ out → nth (labN (esD l ls) (goneL ls out) f nm) (plN l (nth ls k).o) = nth (labN (esD l ls) (goneL ls out) f nm) (plN l (nth ls k).r)
  | 0, nm, hf, _ => by omega
  | f + 1, nm, hf, h => by
    have h1 := h.1
    have he := esD_lt hen
    rw [← h1] at he
    have hs := lbR_sum (gone := goneL ls out) he (esD_ne hen) ls.length (by rw [esD_len]; exact Nat.le_refl _)
    have hr := LbI.r hen h ls.length (Nat.le_refl _)
    simp only [labN]
    rw [esD_len]
    cases hc : (lbR (esD l ls) (goneL ls out) nm ls.length).ch with
    | true =>
      rw [if_pos rfl]
      exact lab_end f _ (by have := hs.2.1 hc; omega) hr
    | false =>
      rw [if_neg (by simp)]
      refine ⟨hr, ?_⟩
      -- nothing changed: every link has one label
      have key : ∀ m, m ≤ ls.length → (lbR (esD l ls) (goneL ls out) nm m).ch = false → (lbR (esD l ls) (goneL ls out) nm m).nm = nm ∧ ∀ k, k < m → (nth ls k).id ∉ out → nth nm (plN l (nth ls k).o) = nth nm (plN l (nth ls k).r) := by
        intro m
        induction m with
        | zero => exact fun _ _ => ⟨rfl, fun k hk => by omega⟩
        | succ m ih =>
          intro hm hch
          simp only [lbR] at hch ⊢
          unfold lbK at hch ⊢
          rw [esD_nth _ _ _ (by omega), goneL_nth _ _ _ (by omega)] at hch ⊢
          simp only [] at hch ⊢
          split at hch
          · rename_i hcc
            rw [if_pos hcc]
            obtain ⟨a, b⟩ := ih (by omega) hch
            refine ⟨a, fun k hk ho => ?_⟩
            rcases Nat.lt_succ_iff_lt_or_eq.1 hk with hk | rfl
            · exact b k hk ho
            · rw [a] at hcc
              rcases hcc with h | h
              · simp at h; exact absurd h ho
              · exact h
          · cases hch
      obtain ⟨a, b⟩ := key ls.length (Nat.le_refl _) hc
      rw [a]; exact b
theorem lab_spec (hn : l.Nodup) {x y : Die} (hx : x ∈ l) (hy : y ∈ l) : nth (labF (esD l ls) (goneL ls out) l.length) (plN l x) = nth (labF (esD l ls) (goneL ls out) l.length) (plN l y) ↔ Jn (notIn out ls) x y := by
  have heq := jn_eqv (notIn out ls)
  have h0 : LbI l (notIn out ls) (List.range l.length) := ⟨by simp, fun i hi => by
    rw [nth_eq _ i (by simpa using hi)]
    simp only [List.getElem_range]
    exact ⟨hi, heq.rfl _⟩⟩
  obtain ⟨⟨a1, a2⟩, b⟩ := lab_end hen ((List.range l.length).sum + 1) (List.range l.length) (by omega) h0
  have e : labN (esD l ls) (goneL ls out) ((List.range l.length).sum + 1) (List.range l.length) = labF (esD l ls) (goneL ls out) l.length := rfl
  rw [e] at a1 a2 b
  generalize labF (esD l ls) (goneL ls out) l.length = nm at *
  have hx2 := a2 _ (plN_mem hx).1
  have hy2 := a2 _ (plN_mem hy).1
  rw [(plN_mem hx).2] at hx2
  rw [(plN_mem hy).2] at hy2
  constructor
  · intro h
    rw [h] at hx2
    exact heq.trans hx2.2 (heq.symm hy2.2)
  · intro h
    obtain ⟨n, hw⟩ := jn_iff.1 h
    have : ∀ (n : Nat) (z : Die), Wk (notIn out ls) x n z → nth nm (plN l z) = nth nm (plN l x) := by
      intro n z hw
      induction hw with
      | nil => rfl
      | cons _ e ih =>
        obtain ⟨k, hk, e⟩ := e
        obtain ⟨h1, h2⟩ := notIn_mem.1 hk
        obtain ⟨i, hi, rfl⟩ := mem_nth h1
        have := b i hi h2
        rcases across_iff.1 e with ⟨rfl, rfl⟩ | ⟨rfl, rfl⟩
        · rw [← this]; exact ih
        · rw [this]; exact ih
    exact (this n y hw).symm
end
theorem labF_len (es : Es) (gone : List Bool) (n : Nat) : (labF es gone n).length = n := by
  have : ∀ f nm, (labN es gone f nm).length = nm.length := by
    intro f
    induction f with
    | zero => exact fun _ => rfl
    | succ f ih =>
      intro nm
      simp only [labN]
      split
      · rw [ih, lbR_len]
      · rw [lbR_len]
  unfold labF
  rw [this]; simp
/-! ### the number of labels -/
def cntI (nm : List Nat) : Nat → Nat
  | 0 => 0
  | i + 1 => cntI nm i + if nth nm i ∈ nm.take i then 0 else 1
theorem cntI_le (nm : List Nat) : ∀ i, cntI nm i ≤ i
  | 0 => Nat.le_refl _
  | i + 1 => by have := cntI_le nm i; simp only [cntI]; split <;> omega
theorem cntI_cc {l : List Die} {nm : List Nat} {C : Die → Die → Prop} (hC : Eqv C) (hl : nm.length = l.length) (hn : l.Nodup) (h : ∀ x ∈ l, ∀ y ∈ l, nth nm (plN l x) = nth nm (plN l y) ↔ C x y) : ∀ i, i ≤ l.length → cntI nm i = cc C (l.take i).reverse
  | 0, _ => by simp [cntI, cc]
  | i + 1, hi => by
    have ih := cntI_cc hC hl hn h i (by omega)
    rw [List.take_succ_eq_append_getElem (by omega : i < l.length), List.reverse_append, List.reverse_singleton, List.singleton_append]
    rw [← nth_eq l i (by omega)]
    simp only [cntI, cc, ih]
    have e : nth nm i ∈ nm.take i ↔ ∃ y ∈ (l.take i).reverse, C (nth l i) y := by
      constructor
      · intro hm
        obtain ⟨j, hj, e⟩ := List.getElem_of_mem hm
        simp at hj
        rw [List.getElem_take] at e
        refine ⟨nth l j, ?_, ?_⟩
        · rw [List.mem_reverse, List.mem_iff_getElem]
          exact ⟨j, by simp; omega, by rw [List.getElem_take, nth_eq l j (by omega)]⟩
        · have := h _ (nth_mem'' l i (by omega)) _ (nth_mem'' l j (by omega))
          rw [plN_nth hn (by omega), plN_nth hn (by omega)] at this
          exact this.1 (by rw [nth_eq nm j (by omega)]; exact e.symm)
      · rintro ⟨y, h1, h2⟩
        rw [List.mem_reverse, List.mem_iff_getElem] at h1
        obtain ⟨j, hj, e⟩ := h1
        simp at hj
        rw [List.getElem_take] at e
        have := h _ (nth_mem'' l i (by omega)) _ (nth_mem'' l j (by omega))
        rw [plN_nth hn (by omega), plN_nth hn (by omega)] at this
        have h3 := this.2 (by rw [nth_eq l j (by omega), e]; exact h2)
        rw [h3, nth_eq nm j (by omega), List.mem_iff_getElem]
        exact ⟨j, by simp; omega, by rw [List.getElem_take]⟩
    by_cases hm : nth nm i ∈ nm.take i
    · rw [if_pos hm, sg_neg (fun h' => h' (e.1 hm))]
    · rw [if_neg hm, sg_pos (fun h' => hm (e.2 h'))]
end Go.Proofs.Ytgldpbghbkoolaa

